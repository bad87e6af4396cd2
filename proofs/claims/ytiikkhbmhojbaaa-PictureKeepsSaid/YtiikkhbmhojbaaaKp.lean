/- What PictureKeeps reckons with: a sample by one and nothing; the matrix that keeps. No program is named here. -/
import Derived.Test.YtiikkhbmhojbaaaLd
import Derived.Test.YtiikkhbmhojbaaaTr
namespace Kp
open Go Ieee Fv Fp Sl Ld Go.Proofs.Ytiikkhbmhojbaaa
set_option linter.unusedVariables false
def kmd (s : Int) : Int := if s / 8388608 % 256 = 255 ∧ s % 8388608 ≠ 0 then 2143289344 else s
theorem fin_lt {s : Int} (h : 0 ≤ s ∧ s < 4294967296) (hf : s / 8388608 % 256 ≠ 255) : (rk s).natAbs < 2139095040 := by unfold rk; split <;> omega
theorem D_inf : D.inf = 9218868437227405312 := rfl
theorem fin_V {s : Int} (h : 0 ≤ s ∧ s < 4294967296) (hf : s / 8388608 % 256 ≠ 255) : ∃ a r, a < 2 ∧ r < 9218868437227405312 ∧ V s = some (wd a r) ∧ T (some (wd a r)) = s ∧ Holds .f64 .f32 (some (wd a r)) := by
  have hr := fin_lt h hf
  have hA := V_at h hr
  obtain ⟨hH, h1, _, _, h4, h5⟩ := hA.told (a := rk s) (b := rk s) (Int.le_refl _) (Int.le_refl _) (by omega) (by omega) (by omega) (by omega)
  have hT : T (V s) = s := by
    by_cases h0 : rk s = 0
    · have : s = 0 ∨ s = 2147483648 := by unfold rk at h0; split at h0 <;> omega
      rcases this with rfl | rfl <;> decide +kernel
    · rw [SR_sv S (by rw [sInf]; omega)] at h1
      unfold rk at h1 h0
      split at h1 <;> split at h1 <;> omega
  obtain ⟨w, r, e, hw, hlt, hv⟩ := hA
  obtain ⟨g, rfl, _, _⟩ := hw
  rw [e] at hT hH
  rw [word_wd] at e hT hH
  exact ⟨g.toNat, r.natAbs, by cases g <;> decide, hlt, e, hT, hH⟩
theorem mul_comm (x y : Option Nat) : op .mul .f64 x y = op .mul .f64 y x := by
  cases x with
  | none => cases y <;> rfl
  | some a =>
    cases y with
    | none => rfl
    | some b =>
      show double.mul a b = double.mul b a
      unfold Format.mul
      congr 1
      cases double.read a <;> cases double.read b <;> simp [Datum.product, Nat.mul_comm, Int.add_comm, Bool.xor_comm]
theorem nz_read : double.read 9223372036854775808 = .number true 0 (-1074) := by decide +kernel
theorem z_read : double.read 0 = .number false 0 (-1074) := by decide +kernel
theorem op_some {o : BinOp} {k : FloatKind} {a b : Nat} : op o k (some a) (some b) = floatBits o k a b := rfl
theorem fmul {a r : Nat} (ha : a < 2) (hr : r < 9218868437227405312) : floatBits .mul .f64 (wd a r) 4607182418800017408 = some (wd a r) := by
  have h := mul_one ha hr
  rw [mul_comm, op_some] at h; exact h
theorem val_m {m r : Nat} {p : Int} (h : m * 2 ^ (p + 1300).toNat = val D r) (hr : r = 0) : m = 0 := by
  rw [hr, val_zero] at h
  rcases Nat.mul_eq_zero.1 h with h | h
  · exact h
  · exact absurd h (Nat.ne_of_gt (Nat.two_pow_pos _))
theorem val_m0 {m r : Nat} {p : Int} (h : m * 2 ^ (p + 1300).toNat = val D r) (hm : m = 0) : r = 0 := by
  rw [hm, Nat.zero_mul] at h
  rcases Nat.eq_zero_or_pos r with c | c
  · exact c
  · exact absurd h.symm (val_pos c)
theorem sum_z {s g : Bool} {m : Nat} {p : Int} (hp : -1074 ≤ p) : (Datum.number s m p).sum (.number g 0 (-1074)) = some (.number (if m = 0 then s && g else s) (m * 2 ^ (p + 1074).toNat) (-1074)) := by
  have hb : min p (-1074) = -1074 := by omega
  have h0 : signed g 0 ((-1074 : Int) - -1074).toNat = 0 := by unfold signed; cases g <;> simp
  have hs : signed s m (p - -1074).toNat = sgn s (m * 2 ^ (p + 1074).toNat) := by rw [signed_sgn]; rfl
  have hpos := Nat.two_pow_pos (p + 1074).toNat
  unfold Datum.sum
  simp only [hb, h0, hs, Int.add_zero, sgn_abs]
  congr 2
  by_cases hm : m = 0
  · rw [if_pos hm, hm, Nat.zero_mul, if_pos (by unfold sgn; cases s <;> rfl)]
  · have hne : m * 2 ^ (p + 1074).toNat ≠ 0 := Nat.mul_ne_zero hm (Nat.ne_of_gt hpos)
    generalize m * 2 ^ (p + 1074).toNat = q at *
    rw [if_neg hm, if_neg (by unfold sgn; cases s <;> simp <;> omega)]
    unfold sgn
    cases s <;> simp <;> omega
theorem add_z {a r c : Nat} {g : Bool} (ha : a < 2) (hr : r < 9218868437227405312) (hc : double.read c = .number g 0 (-1074)) : double.add (wd a r) c = some (double.word (if r = 0 then (a == 1) && g else (a == 1)) r) := by
  obtain ⟨m, p, e, hp, hv⟩ := wd_read ha hr
  have hp' : -1074 ≤ p := by clear hv; omega
  unfold Format.add
  rw [e, hc, sum_z hp']
  have e1 : (if m = 0 then (a == 1) && g else (a == 1)) = if r = 0 then (a == 1) && g else (a == 1) := by
    by_cases hm : m = 0
    · rw [if_pos hm, if_pos (val_m0 hv hm)]
    · rw [if_neg hm, if_neg (fun q => hm (val_m hv q))]
  rw [e1]
  show some (double.nearest _ _ _) = _
  rw [near_word (r := r) (by omega) (Nat.le_of_lt hr) ?_]
  rw [← hv, Nat.mul_assoc, ← Nat.pow_add]
  congr 2
  clear hv; omega
theorem bit_wd {a : Nat} (ha : a < 2) : (a == 1).toNat = a := by
  rcases Nat.lt_or_ge a 1 with c | c
  · obtain rfl : a = 0 := by omega
    rfl
  · obtain rfl : a = 1 := by omega
    rfl
theorem fadd {a r : Nat} (ha : a < 2) (hr : r < 9218868437227405312) : floatBits .add .f64 (wd a r) 9223372036854775808 = some (wd a r) := by
  show double.add _ _ = _
  rw [add_z ha hr nz_read, Bool.and_true, if_pos_same, word_wd, bit_wd ha]
where if_pos_same {r : Nat} {b : Bool} : (if r = 0 then b else b) = b := by split <;> rfl
theorem fsub0 {a r : Nat} (ha : a < 2) (hr : r < 9218868437227405312) : floatBits .sub .f64 (wd a r) 0 = some (wd a r) := by
  have h : double.sub (wd a r) 0 = double.add (wd a r) 9223372036854775808 := by
    unfold Format.sub Format.add
    rw [z_read, nz_read]; rfl
  show double.sub _ _ = _
  rw [h]; exact fadd ha hr
theorem fsubs {a r : Nat} (ha : a < 2) (hr : r < 9218868437227405312) : floatBits .sub .f64 (wd a r) (wd a r) = some 0 := by
  obtain ⟨m, p, e, hp, hv⟩ := wd_read ha hr
  show double.sub _ _ = _
  unfold Format.sub
  rw [e]
  show Option.map double.write ((Datum.number (a == 1) m p).sum (.number (!(a == 1)) m p)) = _
  have h0 : signed (a == 1) m (p - min p p).toNat + signed (!(a == 1)) m (p - min p p).toNat = 0 := by
    rw [signed_sgn, signed_sgn]; unfold sgn
    cases (a == 1) <;> simp <;> omega
  unfold Datum.sum
  simp only [h0, if_true]
  have e3 : ((a == 1) && !(a == 1)) = false := by cases (a == 1) <;> rfl
  rw [e3]
  show some (double.nearest false 0 _) = some 0
  rw [near_word (r := 0) (by clear hv; omega) (Nat.zero_le _) (by rw [val_zero]; exact Nat.zero_mul _), word_wd]
  rfl
/-! ### The matrix that keeps -/
def mxe (c1 c2 c3 : Nat) (x y z : Int) : Option Nat := op .add .f64 (op .add .f64 (op .mul .f64 (some c1) (V x)) (op .mul .f64 (some c2) (V y))) (op .mul .f64 (some c3) (V z))
def mxF (x y z : Int) : Int × Int × Int := (T (mxe 4607182418800017408 0 0 x y z), T (mxe 0 4607182418800017408 0 x y z), T (mxe 0 0 4607182418800017408 x y z))
def Infy (o : Option Nat) : Prop := ∃ w g, o = some w ∧ double.read w = .infinity g
/-- A number, or nothing of any sign. -/
def Zr (o : Option Nat) : Prop := At o 0 ∧ ∃ w g m p, o = some w ∧ double.read w = .number g m p
theorem one_V {x : Int} (h : 0 ≤ x ∧ x < 4294967296) (hf : x / 8388608 % 256 ≠ 255) : At (op .mul .f64 (some 4607182418800017408) (V x)) (sv S (rk x)) ∧ ∃ w g m p, op .mul .f64 (some 4607182418800017408) (V x) = some w ∧ double.read w = .number g m p := by
  obtain ⟨a, r, ha, hr, e, _, _⟩ := fin_V h hf
  have hA := V_at h (fin_lt h hf)
  rw [e] at hA ⊢
  rw [mul_one ha hr]
  obtain ⟨m, p, e2, _⟩ := wd_read ha hr
  exact ⟨hA, _, _, _, _, rfl, e2⟩
theorem zero_V {x : Int} (h : 0 ≤ x ∧ x < 4294967296) (hf : x / 8388608 % 256 ≠ 255) : Zr (op .mul .f64 (some 0) (V x)) := by
  obtain ⟨a, r, ha, hr, e, _, _⟩ := fin_V h hf
  obtain ⟨m, p, e2, hp, _⟩ := wd_read ha hr
  rw [e]
  have e3 := mul_of z_read e2
  rw [Nat.zero_mul] at e3
  have hp2 : -1300 ≤ -1074 + p ∨ ¬ -1300 ≤ -1074 + p := by omega
  have e4 : ∀ (s : Bool) (q : Int), double.nearest s 0 q = double.word s 0 := fun s q => by unfold Format.nearest; rw [if_pos rfl]
  rw [e4, word_wd] at e3
  have hb : (false ^^ (a == 1)).toNat < 2 := by cases (false ^^ (a == 1)) <;> decide
  obtain ⟨m', p', e5, _⟩ := wd_read (r := 0) hb (by decide)
  refine ⟨⟨_, 0, op_of e3, ⟨(false ^^ (a == 1)), ?_, fun q => absurd q (by decide), fun q => absurd q (by decide)⟩, by decide, sv_zero⟩, _, _, _, _, op_of e3, e5⟩
  rw [word_wd]; rfl
theorem bad_V {x : Int} (h : 0 ≤ x ∧ x < 4294967296) (hf : ¬ x / 8388608 % 256 ≠ 255) : V x = none ∨ Infy (V x) := by
  by_cases hn : (rk x).natAbs ≤ 2139095040
  · obtain ⟨w, e, hw⟩ := V_inf h (by unfold rk at hn ⊢; split at hn <;> split <;> omega)
    exact Or.inr ⟨w, _, e, hw⟩
  · exact Or.inl (V_nan h hn)
theorem zero_bad {x : Int} (h : 0 ≤ x ∧ x < 4294967296) (hf : ¬ x / 8388608 % 256 ≠ 255) : op .mul .f64 (some 0) (V x) = none := by
  rcases bad_V h hf with e | ⟨w, g, e, hw⟩
  · rw [e]; rfl
  · rw [e]
    show double.mul 0 w = none
    unfold Format.mul
    rw [z_read, hw]; rfl
theorem write_inf' (g : Bool) : double.read (double.write (.infinity g)) = .infinity g := by
  have h := read_inf fits_D g
  rwa [show D.inf = double.infRung by decide +kernel] at h
theorem one_bad {x : Int} (h : 0 ≤ x ∧ x < 4294967296) (hf : ¬ x / 8388608 % 256 ≠ 255) : op .mul .f64 (some 4607182418800017408) (V x) = none ∨ Infy (op .mul .f64 (some 4607182418800017408) (V x)) := by
  rcases bad_V h hf with e | ⟨w, g, e, hw⟩
  · rw [e]; exact Or.inl rfl
  · refine Or.inr ⟨double.write (.infinity (g ^^ false)), _, ?_, write_inf' _⟩
    rw [e]
    show double.mul _ w = _
    unfold Format.mul
    rw [one_read, hw]
    unfold Datum.product
    simp only [if_neg (show ¬ (2 : Nat) ^ 52 = 0 by decide)]; rfl
theorem add_inf1 {u v : Option Nat} (h : Infy u) (hv : ∃ w g m p, v = some w ∧ double.read w = .number g m p) : Infy (op .add .f64 u v) := by
  obtain ⟨w, g, rfl, hw⟩ := h
  obtain ⟨w', g', m, p, rfl, hw'⟩ := hv
  refine ⟨_, g, ?_, write_inf' g⟩
  show double.add w w' = _
  unfold Format.add
  rw [hw, hw']; rfl
theorem add_inf2 {u v : Option Nat} (h : Infy u) (hv : ∃ w g m p, v = some w ∧ double.read w = .number g m p) : Infy (op .add .f64 v u) := by
  obtain ⟨w, g, rfl, hw⟩ := h
  obtain ⟨w', g', m, p, rfl, hw'⟩ := hv
  refine ⟨_, g, ?_, write_inf' g⟩
  show double.add w' w = _
  unfold Format.add
  rw [hw, hw']; rfl
theorem holds_inf {u : Option Nat} (h : Infy u) : Holds .f64 .f32 u := by
  obtain ⟨w, g, rfl, hw⟩ := h
  intro b hb
  cases hb
  unfold floatToFloatBits
  have hw' : FloatKind.f64.decode w = .infinity g := hw
  rw [if_neg (by decide), hw']; rfl
theorem holds_none : Holds .f64 .f32 none := fun b hb => by cases hb
theorem op_n1 {o : BinOp} (y : Option Nat) : op o .f64 none y = none := rfl
theorem op_n2 {o : BinOp} (x : Option Nat) : op o .f64 x none = none := by cases x <;> rfl
theorem num_at {o : Option Nat} {X : Int} (h : At o X) : ∃ w g m p, o = some w ∧ double.read w = .number g m p := by
  obtain ⟨w, r, e, hw, hr, _⟩ := h
  obtain ⟨g, m, p, e2, _⟩ := hw.read fits_D hr
  exact ⟨w, g, m, p, e, e2⟩
theorem add_at {u v : Option Nat} {X Y Z : Int} (h : At u X) (hv : At v Y) (hZ : Ex Z) (e : X + Y = Z) : At (op .add .f64 u v) Z := by
  have := At.add h hv (A := Z) (B := Z) (by omega) (by omega) hZ hZ
  rwa [e, R_ex hZ] at this
abbrev U (x : Int) : Prop := 0 ≤ x ∧ x < 4294967296
/-- Of the first, the second, the third: what is told where all are finite. -/
theorem told_at {o : Option Nat} {x : Int} (hx : U x) (hf : x / 8388608 % 256 ≠ 255) (h : At o (sv S (rk x))) : Holds .f64 .f32 o ∧ rk (T o) = rk x ∧ 0 ≤ T o ∧ T o < 4294967296 := by
  have hr := fin_lt hx hf
  obtain ⟨hH, h1, _, _, h4, h5⟩ := h.told (a := rk x) (b := rk x) (Int.le_refl _) (Int.le_refl _) (by omega) (by omega) (by omega) (by omega)
  exact ⟨hH, by rw [h1, SR_sv S (by rw [sInf]; omega)], h4, h5⟩
theorem ex0 : Ex 0 := ⟨0, 226, (Nat.zero_mul _).symm, by decide, by decide, by decide⟩
theorem ex_V {x : Int} (hx : U x) (hf : x / 8388608 % 256 ≠ 255) : Ex (sv S (rk x)) := Ex.s (by rw [sInf]; exact fin_lt hx hf)
theorem at1 {x y z : Int} (hx : U x) (hy : U y) (hz : U z) (fx : x / 8388608 % 256 ≠ 255) (fy : y / 8388608 % 256 ≠ 255) (fz : z / 8388608 % 256 ≠ 255) : At (mxe 4607182418800017408 0 0 x y z) (sv S (rk x)) :=
  add_at (add_at (one_V hx fx).1 (zero_V hy fy).1 (ex_V hx fx) (Int.add_zero _)) (zero_V hz fz).1 (ex_V hx fx) (Int.add_zero _)
theorem at2 {x y z : Int} (hx : U x) (hy : U y) (hz : U z) (fx : x / 8388608 % 256 ≠ 255) (fy : y / 8388608 % 256 ≠ 255) (fz : z / 8388608 % 256 ≠ 255) : At (mxe 0 4607182418800017408 0 x y z) (sv S (rk y)) :=
  add_at (add_at (zero_V hx fx).1 (one_V hy fy).1 (ex_V hy fy) (Int.zero_add _)) (zero_V hz fz).1 (ex_V hy fy) (Int.add_zero _)
theorem at3 {x y z : Int} (hx : U x) (hy : U y) (hz : U z) (fx : x / 8388608 % 256 ≠ 255) (fy : y / 8388608 % 256 ≠ 255) (fz : z / 8388608 % 256 ≠ 255) : At (mxe 0 0 4607182418800017408 x y z) (sv S (rk z)) :=
  add_at (add_at (zero_V hx fx).1 (zero_V hy fy).1 (Z := 0) ex0 (Int.add_zero _)) (one_V hz fz).1 (ex_V hz fz) (Int.zero_add _)
theorem holds1 {x y z : Int} (hx : U x) (hy : U y) (hz : U z) : Holds .f64 .f32 (mxe 4607182418800017408 0 0 x y z) := by
  unfold mxe
  by_cases fy : y / 8388608 % 256 ≠ 255
  · by_cases fz : z / 8388608 % 256 ≠ 255
    · by_cases fx : x / 8388608 % 256 ≠ 255
      · exact (told_at hx fx (at1 hx hy hz fx fy fz)).1
      · rcases one_bad hx fx with e | e
        · rw [e, op_n1, op_n1]; exact holds_none
        · exact holds_inf (add_inf1 (add_inf1 e (zero_V hy fy).2) (zero_V hz fz).2)
    · rw [zero_bad hz fz, op_n2]; exact holds_none
  · rw [zero_bad hy fy, op_n2, op_n1]; exact holds_none
theorem holds2 {x y z : Int} (hx : U x) (hy : U y) (hz : U z) : Holds .f64 .f32 (mxe 0 4607182418800017408 0 x y z) := by
  unfold mxe
  by_cases fx : x / 8388608 % 256 ≠ 255
  · by_cases fz : z / 8388608 % 256 ≠ 255
    · by_cases fy : y / 8388608 % 256 ≠ 255
      · exact (told_at hy fy (at2 hx hy hz fx fy fz)).1
      · rcases one_bad hy fy with e | e
        · rw [e, op_n2, op_n1]; exact holds_none
        · exact holds_inf (add_inf1 (add_inf2 e (zero_V hx fx).2) (zero_V hz fz).2)
    · rw [zero_bad hz fz, op_n2]; exact holds_none
  · rw [zero_bad hx fx, op_n1, op_n1]; exact holds_none
theorem holds3 {x y z : Int} (hx : U x) (hy : U y) (hz : U z) : Holds .f64 .f32 (mxe 0 0 4607182418800017408 x y z) := by
  unfold mxe
  by_cases fx : x / 8388608 % 256 ≠ 255
  · by_cases fy : y / 8388608 % 256 ≠ 255
    · by_cases fz : z / 8388608 % 256 ≠ 255
      · exact (told_at hz fz (at3 hx hy hz fx fy fz)).1
      · rcases one_bad hz fz with e | e
        · rw [e, op_n2]; exact holds_none
        · have h0 := add_at (zero_V hx fx).1 (zero_V hy fy).1 (Z := 0) ex0 (Int.add_zero _)
          exact holds_inf (add_inf2 e (num_at h0))
    · rw [zero_bad hy fy, op_n2, op_n1]; exact holds_none
  · rw [zero_bad hx fx, op_n1, op_n1]; exact holds_none
theorem same_V {x : Int} {o : Option Nat} (hx : U x) (hf : x / 8388608 % 256 ≠ 255) (h : At o (sv S (rk x))) : (ord .f64 (V (T o)) (V x) != some .eq) = false := by
  obtain ⟨_, h1, h2, h3⟩ := told_at hx hf h
  have hr := fin_lt hx hf
  have hA := V_at ⟨h2, h3⟩ (by rw [h1]; exact hr)
  rw [h1] at hA
  exact (same_ne hA (V_at hx hr)).1
theorem isb_lt {X : Nat} {x : Option Nat} (h : IsB .f32 X x) : (0 : Int) ≤ (X : Int) ∧ (X : Int) < 4294967296 := by
  have e : FloatKind.f32.format.signWeight = 2147483648 := by decide +kernel
  have := h.2; rw [e] at this; omega
theorem mde_is {X : Nat} {x : Option Nat} (h : IsB .f32 X x) : Bt.mde (X : Int) = T32 x := by
  have e : single.signWeight = 2147483648 := by decide +kernel
  have e2 : single.infRung = 2139095040 := by decide +kernel
  have e3 : single.binade = 8388608 := by decide +kernel
  have hX : X < 4294967296 := by have := h.2; rw [show FloatKind.f32.format.signWeight = 2147483648 from e] at this; omega
  have key : nanB .f32 X = true ↔ Bt.cls (X : Int) = 1 := by
    have hn : nanB .f32 X = true ↔ 2139095040 < X % 2147483648 := by
      show (single.read X).isNaN = true ↔ _
      unfold Format.read
      simp only [e, e2, e3]
      by_cases c1 : X % 2147483648 < 8388608
      · rw [if_pos c1]; simp [Datum.isNaN]; omega
      · rw [if_neg c1]
        by_cases c2 : X % 2147483648 < 2139095040
        · rw [if_pos c2]; simp [Datum.isNaN]; omega
        · rw [if_neg c2]
          by_cases c3 : X % 2147483648 = 2139095040
          · rw [if_pos c3]; simp [Datum.isNaN]; omega
          · rw [if_neg c3]; simp [Datum.isNaN]; omega
    rw [hn]
    unfold Bt.cls
    split
    · split <;> omega
    · split
      · split <;> omega
      · omega
  unfold Bt.mde
  obtain ⟨h, _⟩ := h
  cases x with
  | none => rw [if_pos (key.1 h)]; rfl
  | some b =>
    obtain ⟨rfl, h⟩ := h
    rw [if_neg (fun c => by rw [key.2 c] at h; cases h)]; rfl
/-! ### What is kept between -/
theorem lst_comm {a b : Int} (ha : U a) (hb : U b) : Bt.lst a b = Bt.lst b a :=
  Bt.key_inj (Bt.lst_bd ha hb) (Bt.lst_bd hb ha) (by rw [Bt.key_lst, Bt.key_lst, Int.min_comm])
end Kp
