/- Floats reckoned, in plain Lean: sums, doubles and shares of samples' values, rounded; scales of powers of two. -/
import Derived.Test.YtiikkhbmhojbaaaFv
namespace Sl
open Go Ieee Fv Fp
set_option linter.unusedVariables false
/-! ### Exact numbers behind what is known of a float -/
/-- What is nearest to X in binary64. -/
def R (X : Int) : Int := sv D (SR D X)
def At (x : Option Nat) (X : Int) : Prop := ∃ w r, x = some w ∧ Num double w r ∧ r.natAbs < D.inf ∧ sv D r = X
theorem R_mono {X Y : Int} (h : X ≤ Y) : R X ≤ R Y := sv_mono D (SR_mono D h) (SR_bd D X).1 (SR_bd D Y).2
theorem R_ex {X : Int} (h : Ex X) : R X = X := h.sr.1
theorem R_le {X B : Int} (h : X ≤ B) (hB : Ex B) : R X ≤ B := by have := R_mono h; rwa [R_ex hB] at this
theorem R_ge {X B : Int} (h : B ≤ X) (hB : Ex B) : B ≤ R X := by have := R_mono h; rwa [R_ex hB] at this
theorem fin_of {X A B : Int} (h1 : A ≤ X) (h2 : X ≤ B) (hA : Ex A) (hB : Ex B) : (SR D X).natAbs < D.inf := by
  have a := SR_mono D h1; have b := SR_mono D h2
  have c := hA.sr.2; have d := hB.sr.2
  omega
theorem At.of {x : Option Nat} {w : Nat} {X : Int} (hx : x = some w) (hn : Num double w (SR D X)) (hf : (SR D X).natAbs < D.inf) : At x (R X) := ⟨w, _, hx, hn, hf, rfl⟩
theorem At.add {x y : Option Nat} {X Y A B : Int} (hx : At x X) (hy : At y Y) (h1 : A ≤ X + Y) (h2 : X + Y ≤ B) (hA : Ex A) (hB : Ex B) : At (op .add .f64 x y) (R (X + Y)) := by
  obtain ⟨a, p, rfl, ha, ha2, rfl⟩ := hx
  obtain ⟨b, q, rfl, hb, hb2, rfl⟩ := hy
  obtain ⟨w, e, hw⟩ := add_num fits_D ha hb ha2 hb2
  exact At.of (show op .add .f64 (some a) (some b) = some w from e) hw (fin_of h1 h2 hA hB)
theorem At.sub {x y : Option Nat} {X Y A B : Int} (hx : At x X) (hy : At y Y) (h1 : A ≤ X - Y) (h2 : X - Y ≤ B) (hA : Ex A) (hB : Ex B) : At (op .sub .f64 x y) (R (X - Y)) := by
  obtain ⟨a, p, rfl, ha, ha2, rfl⟩ := hx
  obtain ⟨b, q, rfl, hb, hb2, rfl⟩ := hy
  obtain ⟨w, e, hw⟩ := sub_num fits_D ha hb ha2 hb2
  exact At.of (show op .sub .f64 (some a) (some b) = some w from e) hw (fin_of h1 h2 hA hB)
theorem At.mul {x : Option Nat} {X A B : Int} {c : Nat} (n : Nat) (hc : double.read c = .number false (2 ^ 52) ((n : Int) - 52)) (hx : At x X) (h1 : A ≤ X * ((2 ^ n : Nat) : Int)) (h2 : X * ((2 ^ n : Nat) : Int) ≤ B) (hA : Ex A) (hB : Ex B) : At (op .mul .f64 x (some c)) (R (X * ((2 ^ n : Nat) : Int))) := by
  obtain ⟨a, p, rfl, ha, ha2, rfl⟩ := hx
  obtain ⟨w, e, hw⟩ := mul_num fits_D (n := n) ha ha2 hc (by have : D.fb = 52 := rfl; omega) (by decide +kernel)
  exact At.of (show op .mul .f64 (some a) (some c) = some w from e) hw (fin_of h1 h2 hA hB)
theorem At.div {x : Option Nat} {X A B : Int} {c : Nat} (n : Nat) (hc : double.read c = .number false (2 ^ 52) ((n : Int) - 52)) (hn : n ≤ 100) (hx : At x (X * ((2 ^ n : Nat) : Int))) (h1 : A ≤ X) (h2 : X ≤ B) (hA : Ex A) (hB : Ex B) : At (op .quo .f64 x (some c)) (R X) := by
  obtain ⟨a, p, rfl, ha, ha2, hX⟩ := hx
  obtain ⟨w, e, hw⟩ := div_num fits_D (n := n) ha ha2 hc (by have : D.fb = 52 := rfl; omega) hX.symm (by have e1 : D.fb = 52 := rfl; have e2 : D.l0 = 226 := rfl; omega)
  exact At.of (show op .quo .f64 (some a) (some c) = some w from e) hw (fin_of h1 h2 hA hB)
/-- A number of binary64 is a multiple of 2^n. -/
theorem sv_dvd (r : Int) (n : Nat) (hn : n ≤ 226) : ∃ X : Int, sv D r = X * ((2 ^ n : Nat) : Int) := by
  have key : ∃ k : Nat, val D r.natAbs = k * 2 ^ n := by
    unfold val
    have e : D.l0 = 226 := rfl
    split
    · exact ⟨r.natAbs * 2 ^ (226 - n), by rw [e, Nat.mul_assoc, ← Nat.pow_add]; congr 2; omega⟩
    · exact ⟨(D.B + r.natAbs % D.B) * 2 ^ (226 - n + (r.natAbs / D.B - 1)), by rw [e, Nat.mul_assoc, ← Nat.pow_add]; congr 2; omega⟩
  obtain ⟨k, hk⟩ := key
  unfold sv
  rw [hk]
  split
  · exact ⟨-(k : Int), by rw [Int.natCast_mul, Int.neg_mul]⟩
  · exact ⟨(k : Int), by rw [Int.natCast_mul]⟩
theorem At.share {x : Option Nat} {Y : Int} (h : At x Y) (n : Nat) (hn : n ≤ 226) : ∃ X : Int, Y = X * ((2 ^ n : Nat) : Int) := by
  obtain ⟨w, r, _, _, _, rfl⟩ := h
  exact sv_dvd r n hn
/-! ### Samples' values, and numbers told as samples -/
theorem sInf : S.inf = 2139095040 := rfl
theorem V_at {s : Int} (h : 0 ≤ s ∧ s < 4294967296) (hf : (rk s).natAbs < 2139095040) : At (V s) (sv S (rk s)) := by
  have hr : (rk s).natAbs < S.inf := hf
  obtain ⟨w, e, hw⟩ := widen (num_rk h) hr
  refine ⟨w, _, ?_, hw, (Ex.s hr).sr.2, (Ex.s hr).sr.1⟩
  unfold V cv
  rw [rd_fin h hr]; exact e
theorem rk_num {w : Nat} {r : Int} (h : Num single w r) (hr : r.natAbs ≤ 2139095040) : rk (w : Int) = r ∧ (w : Int) < 4294967296 := by
  obtain ⟨s, rfl, h1, h2⟩ := h
  have e : single.signWeight = 2147483648 := by decide +kernel
  unfold rk
  cases s
  · have : single.word false r.natAbs = r.natAbs := rfl
    rw [this]
    have : ¬ r < 0 := fun q => by cases h1 q
    rw [if_pos (by omega)]; omega
  · have : single.word true r.natAbs = 2147483648 + r.natAbs := by show single.signWeight + _ = _; rw [e]
    rw [this]
    have : ¬ 0 < r := fun q => by cases h2 q
    rw [if_neg (by omega)]; omega
theorem At.told {x : Option Nat} {X : Int} {a b : Int} (h : At x X) (h1 : sv S a ≤ X) (h2 : X ≤ sv S b) (ha : -2139095040 < a) (ha' : a ≤ 2139095040) (hb : b < 2139095040) (hb' : -2139095040 ≤ b) : Holds .f64 .f32 x ∧ rk (T x) = SR S X ∧ a ≤ rk (T x) ∧ rk (T x) ≤ b ∧ 0 ≤ T x ∧ T x < 4294967296 := by
  have e1 := SR_ge S h1 (by rw [sInf]; omega)
  have e2 := SR_le S h2 (by rw [sInf]; omega)
  obtain ⟨w, r, rfl, hw, hr, rfl⟩ := h
  obtain ⟨z, e, hz⟩ := narrow hw hr (by rw [sInf]; omega)
  have ht : T (some w) = (z : Int) := by
    unfold T
    have : cv .f64 .f32 (some w) = some z := e
    rw [this]; rfl
  obtain ⟨hk, hlt⟩ := rk_num hz (by omega)
  refine ⟨fun b hb => by cases hb; rw [e]; rfl, by rw [ht, hk], by rw [ht, hk]; exact e1, by rw [ht, hk]; exact e2, by rw [ht]; omega, by rw [ht]; exact hlt⟩
theorem fin_rk {s : Int} (h : 0 ≤ s ∧ s < 4294967296) : (rk s).natAbs < 2139095040 ↔ s % 2147483648 < 2139095040 := by unfold rk; split <;> omega
/-! ### Means and differences of three -/
def yy (r g b : Int) : Option Nat := (op .quo .f64 (op .add .f64 (op .add .f64 (V r) (V b)) (op .mul .f64 (V g) (some 4611686018427387904))) (some 4616189618054758400))
def yg (r g b : Int) : Option Nat := (op .quo .f64 (op .sub .f64 (op .mul .f64 (V g) (some 4611686018427387904)) (op .add .f64 (V r) (V b))) (some 4616189618054758400))
def yo (r g b : Int) : Option Nat := (op .quo .f64 (op .sub .f64 (V r) (V b)) (some 4611686018427387904))
theorem two_c : double.read 4611686018427387904 = .number false (2 ^ 52) ((1 : Nat) - 52) := by decide +kernel
theorem four_c : double.read 4616189618054758400 = .number false (2 ^ 52) ((2 : Nat) - 52) := by decide +kernel
theorem sv_sym (f : Ft) (r : Int) : sv f (-r) = -sv f r := by
  unfold sv
  rw [Int.natAbs_neg]
  by_cases h0 : r = 0
  · subst h0; simp [val_zero]
  · split <;> split <;> omega
theorem ex2 {B : Int} (hB : ∃ m, m.natAbs < S.inf ∧ B = sv S m) (n : Nat) (hn : n ≤ 100) : Ex (B * ((2 ^ n : Nat) : Int)) := by
  obtain ⟨m, hm, rfl⟩ := hB; exact Ex.s2 hm n hn
/-- The roundings of a mean between bounds. -/
theorem mean {r g b lo hi : Int} (hr : 0 ≤ r ∧ r < 4294967296) (hg : 0 ≤ g ∧ g < 4294967296) (hb : 0 ≤ b ∧ b < 4294967296)
    (fl : lo.natAbs < 2139095040) (fh : hi.natAbs < 2139095040) (r1 : lo ≤ rk r) (r2 : rk r ≤ hi) (g1 : lo ≤ rk g) (g2 : rk g ≤ hi) (b1 : lo ≤ rk b) (b2 : rk b ≤ hi) :
    Holds .f64 .f32 (yy r g b) ∧ lo ≤ rk (T (yy r g b)) ∧ rk (T (yy r g b)) ≤ hi ∧ 0 ≤ T (yy r g b) ∧ T (yy r g b) < 4294967296 := by
  have mr1 := sv_mono S r1 (by rw [sInf]; omega) (by rw [sInf]; omega)
  have mr2 := sv_mono S r2 (by rw [sInf]; omega) (by rw [sInf]; omega)
  have mg1 := sv_mono S g1 (by rw [sInf]; omega) (by rw [sInf]; omega)
  have mg2 := sv_mono S g2 (by rw [sInf]; omega) (by rw [sInf]; omega)
  have mb1 := sv_mono S b1 (by rw [sInf]; omega) (by rw [sInf]; omega)
  have mb2 := sv_mono S b2 (by rw [sInf]; omega) (by rw [sInf]; omega)
  have vr := V_at hr (by omega)
  have vg := V_at hg (by omega)
  have vb := V_at hb (by omega)
  have kl := fun n hn => ex2 ⟨lo, by rw [sInf]; omega, rfl⟩ n hn
  have kh := fun n hn => ex2 ⟨hi, by rw [sInf]; omega, rfl⟩ n hn
  have l1 := kl 1 (by omega); have l2 := kl 2 (by omega); have l0 := kl 0 (by omega)
  have h1 := kh 1 (by omega); have h2 := kh 2 (by omega); have h0 := kh 0 (by omega)
  simp only [show ((2 ^ 1 : Nat) : Int) = 2 from rfl, show ((2 ^ 2 : Nat) : Int) = 4 from rfl, show ((2 ^ 0 : Nat) : Int) = 1 from rfl, Int.mul_one] at l1 l2 l0 h1 h2 h0
  have eg : Ex (sv S (rk g) * ((2 ^ 1 : Nat) : Int)) := Ex.s2 (by rw [sInf]; omega) 1 (by omega)
  generalize sv S (rk r) = vR at *
  generalize sv S (rk g) = vG at *
  generalize sv S (rk b) = vB at *
  have s1 := At.add vr vb (A := sv S lo * 2) (B := sv S hi * 2) (by omega) (by omega) l1 h1
  have s1l := R_ge (X := vR + vB) (B := sv S lo * 2) (by omega) l1
  have s1h := R_le (X := vR + vB) (B := sv S hi * 2) (by omega) h1
  have d1 := At.mul 1 two_c vg (Int.le_refl _) (Int.le_refl _) eg eg
  rw [R_ex eg] at d1
  simp only [show ((2 ^ 1 : Nat) : Int) = 2 from rfl] at d1
  have t1 := At.add s1 d1 (A := sv S lo * 4) (B := sv S hi * 4) (by omega) (by omega) l2 h2
  have t1l := R_ge (X := R (vR + vB) + vG * 2) (B := sv S lo * 4) (by omega) l2
  have t1h := R_le (X := R (vR + vB) + vG * 2) (B := sv S hi * 4) (by omega) h2
  generalize R (R (vR + vB) + vG * 2) = Y at t1 t1l t1h
  obtain ⟨X, rfl⟩ := t1.share 2 (by omega)
  simp only [show ((2 ^ 2 : Nat) : Int) = 4 from rfl] at t1l t1h
  have q := At.div 2 four_c (by omega) t1 (A := sv S lo) (B := sv S hi) (by omega) (by omega) l0 h0
  have ql := R_ge (X := X) (B := sv S lo) (by omega) l0
  have qh := R_le (X := X) (B := sv S hi) (by omega) h0
  have w := q.told ql qh (by omega) (by omega) (by omega) (by omega)
  exact ⟨w.1, w.2.2.1, w.2.2.2.1, w.2.2.2.2.1, w.2.2.2.2.2⟩
/-- The differences are told without overflow. -/
theorem diffs {r g b : Int} (hr : 0 ≤ r ∧ r < 4294967296) (hg : 0 ≤ g ∧ g < 4294967296) (hb : 0 ≤ b ∧ b < 4294967296) (fr : (rk r).natAbs < 2139095040) (fg : (rk g).natAbs < 2139095040) (fb : (rk b).natAbs < 2139095040) :
    Holds .f64 .f32 (yg r g b) ∧ Holds .f64 .f32 (yo r g b) := by
  have bd : ∀ k : Int, k.natAbs < 2139095040 → -sv S 2139095039 ≤ sv S k ∧ sv S k ≤ sv S 2139095039 := fun k hk => ⟨by rw [← sv_sym]; exact sv_mono S (by omega) (by rw [sInf]; omega) (by rw [sInf]; omega), sv_mono S (by omega) (by rw [sInf]; omega) (by rw [sInf]; omega)⟩
  have mr := bd _ fr; have mg := bd _ fg; have mb := bd _ fb
  have vr := V_at hr fr
  have vg := V_at hg fg
  have vb := V_at hb fb
  have kh := fun n hn => ex2 ⟨2139095039, by rw [sInf]; omega, rfl⟩ n hn
  have kl := fun n hn => ex2 ⟨-2139095039, by rw [sInf]; omega, rfl⟩ n hn
  simp only [sv_sym] at kl
  have hsy : sv S (-2139095039) = -sv S 2139095039 := sv_sym _ _
  obtain ⟨Mx, hM⟩ : ∃ Mx, sv S 2139095039 = Mx := ⟨_, rfl⟩
  rw [hM] at mr mg mb hsy
  simp only [hM] at kh kl
  have l1 := kl 1 (by omega); have l2 := kl 2 (by omega); have l0 := kl 0 (by omega)
  have h1 := kh 1 (by omega); have h2 := kh 2 (by omega); have h0 := kh 0 (by omega)
  simp only [show ((2 ^ 1 : Nat) : Int) = 2 from rfl, show ((2 ^ 2 : Nat) : Int) = 4 from rfl, show ((2 ^ 0 : Nat) : Int) = 1 from rfl, Int.mul_one] at l1 l2 l0 h1 h2 h0
  have eg : Ex (sv S (rk g) * ((2 ^ 1 : Nat) : Int)) := Ex.s2 (by rw [sInf]; omega) 1 (by omega)
  generalize sv S (rk r) = vR at *
  generalize sv S (rk g) = vG at *
  generalize sv S (rk b) = vB at *
  constructor
  · have s1 := At.add vr vb (A := -Mx * 2) (B := Mx * 2) (by omega) (by omega) l1 h1
    have s1l := R_ge (X := vR + vB) (B := -Mx * 2) (by omega) l1
    have s1h := R_le (X := vR + vB) (B := Mx * 2) (by omega) h1
    have d1 := At.mul 1 two_c vg (Int.le_refl _) (Int.le_refl _) eg eg
    rw [R_ex eg] at d1
    simp only [show ((2 ^ 1 : Nat) : Int) = 2 from rfl] at d1
    have t1 := At.sub d1 s1 (A := -Mx * 4) (B := Mx * 4) (by omega) (by omega) l2 h2
    have t1l := R_ge (X := vG * 2 - R (vR + vB)) (B := -Mx * 4) (by omega) l2
    have t1h := R_le (X := vG * 2 - R (vR + vB)) (B := Mx * 4) (by omega) h2
    generalize R (vG * 2 - R (vR + vB)) = Y at t1 t1l t1h
    obtain ⟨X, rfl⟩ := t1.share 2 (by omega)
    simp only [show ((2 ^ 2 : Nat) : Int) = 4 from rfl] at t1l t1h
    have q := At.div 2 four_c (by omega) t1 (A := -Mx) (B := Mx) (by omega) (by omega) l0 h0
    have ql := R_ge (X := X) (B := -Mx) (by omega) l0
    have qh := R_le (X := X) (B := Mx) (by omega) h0
    exact (q.told (a := -2139095039) (b := 2139095039) (by rw [hsy]; exact ql) (by rw [hM]; exact qh) (by omega) (by omega) (by omega) (by omega)).1
  · have t1 := At.sub vr vb (A := -Mx * 2) (B := Mx * 2) (by omega) (by omega) l1 h1
    have t1l := R_ge (X := vR - vB) (B := -Mx * 2) (by omega) l1
    have t1h := R_le (X := vR - vB) (B := Mx * 2) (by omega) h1
    generalize R (vR - vB) = Y at t1 t1l t1h
    obtain ⟨X, rfl⟩ := t1.share 1 (by omega)
    simp only [show ((2 ^ 1 : Nat) : Int) = 2 from rfl] at t1l t1h
    have q := At.div 1 two_c (by omega) t1 (A := -Mx) (B := Mx) (by omega) (by omega) l0 h0
    have ql := R_ge (X := X) (B := -Mx) (by omega) l0
    have qh := R_le (X := X) (B := Mx) (by omega) h0
    exact (q.told (a := -2139095039) (b := 2139095039) (by rw [hsy]; exact ql) (by rw [hM]; exact qh) (by omega) (by omega) (by omega) (by omega)).1
/-! ### Orders with whole samples -/
theorem sv_lt {r r' : Int} (h : r < r') (h1 : -2139095040 ≤ r) (h2 : r' ≤ 2139095040) : sv S r < sv S r' := by
  have e := SR_sv S (r := r) (by rw [sInf]; omega)
  have e' := SR_sv S (r := r') (by rw [sInf]; omega)
  rcases Int.lt_or_le (sv S r) (sv S r') with q | q
  · exact q
  · have := SR_mono S q; omega
theorem cmp_sv {r r' : Int} (h1 : -2139095040 ≤ r) (h2 : r ≤ 2139095040) (h3 : -2139095040 ≤ r') (h4 : r' ≤ 2139095040) : compare (sv S r) (sv S r') = compare r r' := by
  rcases Int.lt_trichotomy r r' with q | q | q
  · rw [Int.compare_eq_lt.2 q, Int.compare_eq_lt.2 (sv_lt q h1 h4)]
  · subst q; rw [Int.compare_eq_eq.2 rfl, Int.compare_eq_eq.2 rfl]
  · rw [Int.compare_eq_gt.2 q, Int.compare_eq_gt.2 (sv_lt q h3 h2)]
/-- A binary64 of a sample's value. -/
def K64 (c : Nat) (k : Int) : Prop := ∃ r, Num double c r ∧ r.natAbs < D.inf ∧ sv D r = sv S k
theorem K64.of {g : Bool} {c m : Nat} {p k : Int} (h : double.read c = .number g m p) (hp : -1300 ≤ p) (hv : sgn g (m * 2 ^ (p + 1300).toNat) = sv S k) (hw : double.write (.number g m p) = c) (hk : k.natAbs < 2139095040) : K64 c k := by
  have hn := write_fin fits_D (d := .number g m p) (X := sv S k) ⟨g, m, p, rfl, hp, hv.symm⟩
  rw [hw] at hn
  have e := Ex.s (r := k) (by rw [sInf]; exact hk)
  exact ⟨_, hn, e.sr.2, e.sr.1⟩
theorem k0 : K64 0 0 := K64.of (g := false) (m := 0) (p := -1074) (by decide +kernel) (by omega) (by decide +kernel) (by decide +kernel) (by omega)
theorem k128 : K64 4638707616191610880 1124073472 := K64.of (g := false) (m := 2 ^ 52) (p := 7 - 52) (by decide +kernel) (by omega) (by decide +kernel) (by decide +kernel) (by omega)
theorem km127 : K64 13862009284302209024 (-1123942400) := K64.of (g := true) (m := 127 * 2 ^ 46) (p := -46) (by decide +kernel) (by omega) (by decide +kernel) (by decide +kernel) (by omega)
theorem V_inf {s : Int} (h : 0 ≤ s ∧ s < 4294967296) (hr : (rk s).natAbs = 2139095040) : ∃ w, V s = some w ∧ double.read w = .infinity (decide (rk s < 0)) := by
  obtain ⟨g, e, hg⟩ := rd_inf h hr
  refine ⟨double.word g double.infRung, ?_, by rw [← hg]; have := read_inf fits_D g; rwa [show D.inf = double.infRung by decide +kernel] at this⟩
  have hn : nanB .f32 s.toNat = false := by unfold nanB; rw [e]; rfl
  unfold V cv rd
  rw [hn]
  show floatToFloatBits .f32 s.toNat .f64 = _
  unfold floatToFloatBits
  rw [if_neg (by decide), e]; rfl
theorem ord_K {s k : Int} {c : Nat} (h : 0 ≤ s ∧ s < 4294967296) (hn : (rk s).natAbs ≤ 2139095040) (hc : K64 c k) (hk : k.natAbs < 2139095040) : ord .f64 (V s) (some c) = some (compare (rk s) k) := by
  obtain ⟨q, hq, hq2, hq3⟩ := hc
  by_cases hi : (rk s).natAbs < 2139095040
  · obtain ⟨w, r, e, hw, hw2, hw3⟩ := V_at h hi
    rw [e]
    show double.order w c = _
    rw [order_num fits_D hw hq hw2 hq2, hq3, hw3, cmp_sv (by omega) (by omega) (by omega) (by omega)]
  · obtain ⟨w, e, hw⟩ := V_inf h (by omega)
    obtain ⟨g, m, p, e2, _⟩ := hq.read fits_D hq2
    rw [e]
    show double.order w c = _
    unfold Format.order
    rw [hw, e2]
    by_cases hneg : rk s < 0
    · simp [hneg, Datum.order]; exact (Int.compare_eq_lt.2 (by omega)).symm
    · simp [hneg, Datum.order]; exact (Int.compare_eq_gt.2 (by omega)).symm
theorem V_nan {s : Int} (h : 0 ≤ s ∧ s < 4294967296) (hn : ¬ (rk s).natAbs ≤ 2139095040) : V s = none := by
  unfold V; rw [rd_nan h (by rw [sInf]; omega)]; rfl
/-! ### The scale of powers of two -/
def lq (a : Int) : Option Nat := (op .quo .f64 (some (floatOfInt .f64 (a - 1065353216))) (some 4710765210229538816))
def LG (a : Int) : Int := if (ord .f64 (V a) (some 0) == some .eq) = true then 4286578688 else if (!(ord .f64 (V a) (some 0) == some .gt)) = true then 2143289344 else if a = 2139095040 then a else T (lq a)
theorem sc_c : double.read 4710765210229538816 = .number false (2 ^ 52) ((23 : Nat) - 52) := by decide +kernel
theorem ofInt_at {n : Int} {k : Nat} (h : n.natAbs < 9007199254740992) (hk : k = 1300) : At (some (floatOfInt .f64 n)) (n * ((2 ^ k : Nat) : Int)) := by
  subst hk
  have hX : n * ((2 ^ 1300 : Nat) : Int) = sgn (decide (n < 0)) (n.natAbs * 2 ^ (0 + 1300 : Int).toNat) := by
    rw [show (0 + 1300 : Int).toNat = 1300 from rfl, sgn_mul, sgn_int]
  have hn := write_fin fits_D (d := .number (decide (n < 0)) n.natAbs 0) (X := n * ((2 ^ 1300 : Nat) : Int)) ⟨_, _, _, rfl, by omega, hX⟩
  have e : Ex (n * ((2 ^ 1300 : Nat) : Int)) := ⟨n.natAbs, 1300, by rw [Int.natAbs_mul, Int.natAbs_natCast], h, by omega, by omega⟩
  exact ⟨_, _, rfl, hn, e.sr.2, e.sr.1⟩
theorem At.parted {x : Option Nat} {n : Int} {a b k : Nat} (h : At x (n * ((2 ^ k : Nat) : Int))) (hk : k = a + b) : At x (n * ((2 ^ a : Nat) : Int) * ((2 ^ b : Nat) : Int)) := by
  subst hk
  rwa [Nat.pow_add, Int.natCast_mul, ← Int.mul_assoc] at h
theorem lq_at {a : Int} (h : 0 ≤ a ∧ a < 4294967296) : At (lq a) ((a - 1065353216) * ((2 ^ 1277 : Nat) : Int)) := by
  obtain ⟨k, hk⟩ : ∃ k : Nat, k = 1300 := ⟨_, rfl⟩
  have h1 := At.parted (a := 1277) (b := 23) (ofInt_at (n := a - 1065353216) (by omega) hk) (by omega)
  have ex : Ex ((a - 1065353216) * ((2 ^ 1277 : Nat) : Int)) := ⟨(a - 1065353216).natAbs, 1277, by rw [Int.natAbs_mul, Int.natAbs_natCast], by omega, by omega, by omega⟩
  have := At.div 23 sc_c (by omega) h1 (Int.le_refl _) (Int.le_refl _) ex ex
  rwa [R_ex ex] at this
theorem bd_512 : sv S 1140850688 = 512 * ((2 ^ 1300 : Nat) : Int) := by decide +kernel
theorem bd_128 : sv S 1124073472 = 1073741824 * ((2 ^ 1277 : Nat) : Int) := by decide +kernel
theorem bd_m127 : sv S (-1123942400) = -1065353216 * ((2 ^ 1277 : Nat) : Int) := by decide +kernel
theorem scale_le {x y : Int} (h : x ≤ y) (k : Nat) : x * (k : Int) ≤ y * (k : Int) := Int.mul_le_mul_of_nonneg_right h (by omega)
theorem log_holds {a : Int} (h : 0 ≤ a ∧ a < 4294967296) : Holds .f64 .f32 (lq a) := by
  have e : (512 : Int) * ((2 ^ 1300 : Nat) : Int) = 4294967296 * ((2 ^ 1277 : Nat) : Int) := by decide +kernel
  have h1 := scale_le (show a - 1065353216 ≤ 4294967296 by omega) (2 ^ 1277)
  have h2 := scale_le (show -4294967296 ≤ a - 1065353216 by omega) (2 ^ 1277)
  have s1 := sv_sym S 1140850688
  rw [bd_512, e] at s1
  exact ((lq_at h).told (a := -1140850688) (b := 1140850688) (by rw [s1, ← Int.neg_mul]; exact h2) (by rw [bd_512, e]; exact h1) (by omega) (by omega) (by omega) (by omega)).1
theorem LG_u32 {a : Int} (h : 0 ≤ a ∧ a < 4294967296) : 0 ≤ LG a ∧ LG a < 4294967296 := by
  have e : (512 : Int) * ((2 ^ 1300 : Nat) : Int) = 4294967296 * ((2 ^ 1277 : Nat) : Int) := by decide +kernel
  have h1 := scale_le (show a - 1065353216 ≤ 4294967296 by omega) (2 ^ 1277)
  have h2 := scale_le (show -4294967296 ≤ a - 1065353216 by omega) (2 ^ 1277)
  have s1 := sv_sym S 1140850688
  rw [bd_512, e] at s1
  have w := (lq_at h).told (a := -1140850688) (b := 1140850688) (by rw [s1, ← Int.neg_mul]; exact h2) (by rw [bd_512, e]; exact h1) (by omega) (by omega) (by omega) (by omega)
  unfold LG
  split
  · omega
  · split
    · omega
    · split
      · omega
      · exact w.2.2.2.2
theorem LG_rk {a : Int} (h : 0 ≤ a ∧ a < 4294967296) (h0 : 0 ≤ rk a) (hn : rk a ≤ 2139095040) : 0 ≤ LG a ∧ LG a < 4294967296 ∧ rk (LG a) = if rk a = 0 then -2139095040 else if rk a = 2139095040 then 2139095040 else SR S ((rk a - 1065353216) * ((2 ^ 1277 : Nat) : Int)) := by
  unfold LG
  rw [ord_K h (by omega) k0 (by omega)]
  by_cases hz : rk a = 0
  · rw [hz]; simp; decide
  · have hg : compare (rk a) 0 = .gt := Int.compare_eq_gt.2 (by omega)
    have ha : rk a = a := by unfold rk at h0 hz hn ⊢; split <;> omega
    rw [hg, if_neg (by decide), if_neg (by decide), if_neg hz, ha]
    by_cases hi : a = 2139095040
    · rw [if_pos hi, if_pos hi, ha]; omega
    · rw [if_neg hi, if_neg hi]
      have h1 := scale_le (show a - 1065353216 ≤ 1073741824 by omega) (2 ^ 1277)
      have h2 := scale_le (show -1065353216 ≤ a - 1065353216 by omega) (2 ^ 1277)
      have w := (lq_at h).told (a := -1123942400) (b := 1124073472) (by rw [bd_m127]; exact h2) (by rw [bd_128]; exact h1) (by omega) (by omega) (by omega) (by omega)
      exact ⟨w.2.2.2.2.1, w.2.2.2.2.2, w.2.1⟩
theorem LG_bd {a : Int} (h : 0 < a ∧ a < 2139095040) : LG a % 2147483648 < 2139095040 ∧ -1123942400 ≤ rk (LG a) ∧ rk (LG a) ≤ 1124073472 ∧ 0 ≤ LG a ∧ LG a < 4294967296 := by
  have ha : rk a = a := by unfold rk; split <;> omega
  obtain ⟨b1, b2, e⟩ := LG_rk (a := a) (by omega) (by omega) (by omega)
  rw [ha, if_neg (by omega), if_neg (by omega)] at e
  have h1 := scale_le (show a - 1065353216 ≤ 1073741824 by omega) (2 ^ 1277)
  have h2 := scale_le (show -1065353216 ≤ a - 1065353216 by omega) (2 ^ 1277)
  have e1 := SR_ge S (r := -1123942400) (by rw [bd_m127]; exact h2) (by rw [sInf]; omega)
  have e2 := SR_le S (r := 1124073472) (by rw [bd_128]; exact h1) (by rw [sInf]; omega)
  refine ⟨?_, by omega, by omega, b1, b2⟩
  exact (fin_rk ⟨b1, b2⟩).1 (by omega)
theorem LG_mono {a b : Int} (ha : 0 ≤ a ∧ a < 4294967296) (hb : 0 ≤ b ∧ b < 4294967296) (h0 : 0 ≤ rk a) (h : rk a ≤ rk b) (hn : rk b ≤ 2139095040) : rk (LG a) ≤ rk (LG b) := by
  rw [(LG_rk ha h0 (by omega)).2.2, (LG_rk hb (by omega) hn).2.2]
  have x1 := SR_bd S ((rk a - 1065353216) * ((2 ^ 1277 : Nat) : Int))
  have x2 := SR_bd S ((rk b - 1065353216) * ((2 ^ 1277 : Nat) : Int))
  rw [sInf] at x1 x2
  have x3 := SR_mono S (scale_le (show rk a - 1065353216 ≤ rk b - 1065353216 by omega) (2 ^ 1277))
  split <;> split <;> (try split) <;> (try split) <;> omega
/-! ### Back from the scale -/
/-- The nearest whole number, ties to even, of X units of 2^-1300. -/
def RN (X : Int) : Int := sgn (decide (X < 0)) (rne X.natAbs 1300)
theorem RN_mono {X Y : Int} (h : X ≤ Y) : RN X ≤ RN Y := by
  unfold RN sgn
  by_cases h1 : X < 0 <;> by_cases h2 : Y < 0 <;> simp only [h1, h2, decide_true, decide_false, if_true, Bool.false_eq_true, if_false]
  · have := rne_mono (show Y.natAbs ≤ X.natAbs by omega) 1300; omega
  · omega
  · omega
  · have := rne_mono (show X.natAbs ≤ Y.natAbs by omega) 1300; omega
theorem rne_0 (d : Nat) : rne 0 d = 0 := by have := rne_exact 0 d; rwa [Nat.zero_mul] at this
theorem rne_1300 (k : Nat) {e : Nat} (he : e = 1300) : rne (k * 2 ^ e) 1300 = k := by rw [← he]; exact rne_exact k e
theorem RN_exact (k : Int) {e : Nat} (he : e = 1300) : RN (k * ((2 ^ e : Nat) : Int)) = k := by
  have hp : (0 : Int) < ((2 ^ e : Nat) : Int) := by exact_mod_cast Nat.two_pow_pos e
  have hs : (k * ((2 ^ e : Nat) : Int) < 0) ↔ k < 0 := by
    constructor
    · intro h; rcases Int.lt_or_le k 0 with q | q
      · exact q
      · have := Int.mul_nonneg q (Int.le_of_lt hp); omega
    · intro h; exact Int.mul_neg_of_neg_of_pos h hp
  unfold RN
  rw [Int.natAbs_mul, Int.natAbs_natCast, rne_1300 _ he]
  have : decide (k * ((2 ^ e : Nat) : Int) < 0) = decide (k < 0) := by simp only [hs]
  rw [this, sgn_int]
theorem toInt_even {s : Bool} {m : Nat} {p X : Int} (hp : -1300 ≤ p) (hX : X = sgn s (m * 2 ^ (p + 1300).toNat)) : (Datum.number s m p).toInt .even = some (RN X) ∧ (Datum.number s m p).integral .even = .number s (rne X.natAbs 1300) 0 := by
  have hr : rne (m * 2 ^ p.toNat) (-p).toNat = rne X.natAbs 1300 := by
    rw [hX, sgn_abs]
    rcases Int.lt_or_le p 0 with h | h
    · have := rne_scale m (-p).toNat (p + 1300).toNat
      rw [show (-p).toNat + (p + 1300).toNat = 1300 by omega] at this
      rw [this, show p.toNat = 0 by omega, Nat.pow_zero, Nat.mul_one]
    · obtain ⟨q, hq⟩ : ∃ q : Nat, q = 1300 := ⟨_, rfl⟩
      rw [show (-p).toNat = 0 by omega, rne_zero, show (p + 1300).toNat = p.toNat + q by omega, Nat.pow_add, ← Nat.mul_assoc, rne_1300 _ hq]
  have hi : (Datum.number s m p).integral .even = .number s (rne X.natAbs 1300) 0 := by
    show Datum.number s (Toward.even.cut s (m <<< p.toNat) (-p).toNat) 0 = _
    rw [rne_cut, Nat.shiftLeft_eq, hr]
  refine ⟨?_, hi⟩
  unfold Datum.toInt
  rw [hi]
  show some (signed s (rne X.natAbs 1300) 0) = _
  rw [signed_sgn, Nat.pow_zero, Nat.mul_one]
  unfold RN
  congr 1
  by_cases h : X < 0
  · rw [hX] at h; rw [sgn_neg h, hX]; simp [h]
  · rcases Int.lt_or_le 0 X with h1 | h1
    · rw [sgn_pos (s := s) (n := m * 2 ^ (p + 1300).toNat) (by rw [← hX]; exact h1)]; simp [h]
    · have h0 : X = 0 := by omega
      rw [h0, Int.natAbs_zero, rne_0]; cases s <;> rfl
theorem zero_cut (s : Bool) (n d : Nat) : Toward.zero.cut s n d = n / 2 ^ d := by
  unfold Toward.cut
  simp only [Nat.one_shiftLeft]
  by_cases hd : d ≤ n.log2 + 2
  · rw [Nat.min_eq_left hd]; simp
  · rw [Nat.min_eq_right (by omega)]
    have hlt : n < 2 ^ (n.log2 + 1) := Nat.lt_log2_self
    have h1 : n < 2 ^ (n.log2 + 2) := Nat.lt_of_lt_of_le hlt (Nat.pow_le_pow_right (by decide) (by omega))
    have h2 : n < 2 ^ d := Nat.lt_of_lt_of_le h1 (Nat.pow_le_pow_right (by decide) (by omega))
    rw [Nat.div_eq_of_lt h1, Nat.div_eq_of_lt h2]; simp
theorem toInt_zero {s : Bool} {m : Nat} {p k : Int} {e : Nat} (he : e = 1300) (hp : -1300 ≤ p) (hX : k * ((2 ^ e : Nat) : Int) = sgn s (m * 2 ^ (p + 1300).toNat)) : (Datum.number s m p).toInt .zero = some k := by
  have hn : k.natAbs * 2 ^ e = m * 2 ^ (p + 1300).toNat := by
    have := congrArg Int.natAbs hX
    rwa [Int.natAbs_mul, Int.natAbs_natCast, sgn_abs] at this
  have hq : m * 2 ^ p.toNat / 2 ^ (-p).toNat = k.natAbs := by
    rcases Int.lt_or_le p 0 with h | h
    · have e1 : e = (-p).toNat + (p + 1300).toNat := by omega
      rw [e1, Nat.pow_add, ← Nat.mul_assoc] at hn
      have := Nat.eq_of_mul_eq_mul_right (Nat.two_pow_pos _) hn
      rw [show p.toNat = 0 by omega, Nat.pow_zero, Nat.mul_one, ← this, Nat.mul_div_cancel _ (Nat.two_pow_pos _)]
    · have e1 : (p + 1300).toNat = p.toNat + e := by omega
      rw [e1, Nat.pow_add, ← Nat.mul_assoc] at hn
      have := Nat.eq_of_mul_eq_mul_right (Nat.two_pow_pos _) hn
      rw [show (-p).toNat = 0 by omega, Nat.pow_zero, Nat.div_one, this]
  unfold Datum.toInt Datum.integral
  simp only [zero_cut, Nat.shiftLeft_eq, hq]
  show some (signed s k.natAbs 0) = _
  rw [signed_sgn, Nat.pow_zero, Nat.mul_one]
  have hp0 : (0 : Int) < ((2 ^ e : Nat) : Int) := by exact_mod_cast Nat.two_pow_pos e
  congr 1
  rcases Int.lt_trichotomy k 0 with h | h | h
  · have : sgn s (m * 2 ^ (p + 1300).toNat) < 0 := by rw [← hX]; exact Int.mul_neg_of_neg_of_pos h hp0
    rw [sgn_neg this]; unfold sgn; simp; omega
  · subst h; cases s <;> simp [sgn]
  · have : 0 < sgn s (m * 2 ^ (p + 1300).toNat) := by rw [← hX]; exact Int.mul_pos h hp0
    rw [sgn_pos this]; unfold sgn; simp; omega
def RE (X : Nat) : Nat := double.write ((double.read X).integral .even)
def RI (x : Option Nat) : Int := match x with | some b => ((double.read b).toInt .even).getD 0 | none => 0
theorem RI_at {x : Option Nat} {X : Int} (h : At x X) : RI x = RN X := by
  obtain ⟨w, r, rfl, hw, hr, rfl⟩ := h
  obtain ⟨s, m, p, e, _, hp, hv⟩ := hw.read fits_D hr
  have e0 : D.l0 = 226 := rfl
  obtain ⟨t1, t2⟩ := toInt_even (s := s) (m := m) (p := p) (by omega) hv
  show ((double.read w).toInt .even).getD 0 = _
  rw [e, t1]; rfl
/-- math.RoundToEven, then an int. -/
theorem rte {P : Program} {X0 : Nat} {x : Option Nat} {X : Int} (h : At x X) (hX : Is .f64 X0 x) (hb : (RN X).natAbs < 9007199254740992) :
    (∀ w, ((Extern.MathFloor.toIntegral "math.RoundToEven" .even) #[.float .f64 X0]).run P w = .ok (.float .f64 (RE X0)) w) ∧ floatToIntVal .f64 (RE X0) .i64 = some (RI x) := by
  have hri := RI_at h
  obtain ⟨w, r, rfl, hw, hr, rfl⟩ := h
  obtain ⟨rfl, _⟩ := hX
  obtain ⟨s, m, p, e, _, hp, hv⟩ := hw.read fits_D hr
  have e0 : D.l0 = 226 := rfl
  obtain ⟨t1, t2⟩ := toInt_even (s := s) (m := m) (p := p) (by omega) hv
  refine ⟨fun w => ?_, ?_⟩
  · have e' : FloatKind.f64.decode X0 = .number s m p := e
    have key : ∀ d : Datum, d = .number s m p → ((match d with
      | .nan s t =>
        if FloatKind.f64.format.quiet t = t then pure (.float .f64 X0) else do
        let kept ← choose (.extern "math.Floor,Ceil,Trunc,RoundToEven.signallingNaN kept" 2)
        pure (.float .f64 (if kept == 1 then X0 else FloatKind.f64.encode (.nan s (FloatKind.f64.format.quiet t))))
      | d => pure (.float .f64 (FloatKind.f64.encode (d.integral .even))) : Sem Value)).run P w = .ok (.float .f64 (double.write (d.integral .even))) w := by
      rintro d rfl; rfl
    exact key (FloatKind.f64.decode X0) e'
  · rw [hri]
    obtain ⟨q, hq⟩ : ∃ q : Nat, q = 1300 := ⟨_, rfl⟩
    have hre : RE X0 = double.write (.number s (rne (sv D r).natAbs 1300) 0) := by unfold RE; rw [e, t2]
    have hs : RN (sv D r) * ((2 ^ q : Nat) : Int) = sgn s (rne (sv D r).natAbs 1300 * 2 ^ (0 + 1300 : Int).toNat) := by
      rw [show (0 + 1300 : Int).toNat = q by omega, sgn_mul]
      congr 1
      have := t1
      unfold Datum.toInt at this
      rw [t2] at this
      have h2 : signed s (rne (sv D r).natAbs 1300) 0 = RN (sv D r) := Option.some.inj this
      rw [signed_sgn, Nat.pow_zero, Nat.mul_one] at h2
      exact h2.symm
    have hn := write_fin fits_D (d := .number s (rne (sv D r).natAbs 1300) 0) (X := RN (sv D r) * ((2 ^ q : Nat) : Int)) ⟨_, _, _, rfl, by omega, hs⟩
    rw [← hre] at hn
    have ex : Ex (RN (sv D r) * ((2 ^ q : Nat) : Int)) := ⟨(RN (sv D r)).natAbs, q, by rw [Int.natAbs_mul, Int.natAbs_natCast], hb, by omega, by omega⟩
    obtain ⟨s', m', p', e', _, hp', hv'⟩ := hn.read fits_D ex.sr.2
    rw [ex.sr.1] at hv'
    have hz := toInt_zero (s := s') (m := m') (p := p') hq (by omega) hv'
    unfold floatToIntVal
    have e2 : FloatKind.f64.decode (RE X0) = .number s' m' p' := e'
    rw [e2, hz]
    have hmin : IntKind.i64.min = -9223372036854775808 := by decide
    have hmax : IntKind.i64.max = 9223372036854775807 := by decide
    show (if IntKind.i64.min ≤ RN (sv D r) ∧ RN (sv D r) ≤ IntKind.i64.max then _ else _) = _
    rw [if_pos (by rw [hmin, hmax]; omega)]
def ex (a : Int) : Option Nat := (op .mul .f64 (V a) (some 4710765210229538816))
def EX (a : Int) : Int := if (V a).isNone = true then 2143289344 else if (ord .f64 (V a) (some 4638707616191610880) == some .gt || ord .f64 (V a) (some 4638707616191610880) == some .eq) = true then 2139095040 else if (ord .f64 (V a) (some 13862009284302209024) == some .lt) = true then 0 else RI (ex a) + 1065353216
theorem bd23 (k : Int) {e : Nat} (he : e = 1300) : 1124073472 = k → sv S k = 128 * ((2 ^ e : Nat) : Int) := by subst he; rintro rfl; decide +kernel
theorem bd23' (k : Int) {e : Nat} (he : e = 1300) : -1123942400 = k → sv S k = -127 * ((2 ^ e : Nat) : Int) := by subst he; rintro rfl; decide +kernel
theorem ex_at {a : Int} (h : 0 ≤ a ∧ a < 4294967296) (h1 : -1123942400 ≤ rk a) (h2 : rk a ≤ 1124073472) : At (ex a) (sv S (rk a) * ((2 ^ 23 : Nat) : Int)) ∧ -1065353216 ≤ RN (sv S (rk a) * ((2 ^ 23 : Nat) : Int)) ∧ RN (sv S (rk a) * ((2 ^ 23 : Nat) : Int)) ≤ 1073741824 := by
  have e := Ex.s2 (r := rk a) (by rw [sInf]; omega) 23 (by omega)
  have hm := At.mul 23 sc_c (V_at h (by omega)) (Int.le_refl _) (Int.le_refl _) e e
  rw [R_ex e] at hm
  obtain ⟨q, hq⟩ : ∃ q : Nat, q = 1300 := ⟨_, rfl⟩
  have b1 := scale_le (sv_mono S h1 (by rw [sInf]; omega) (by rw [sInf]; omega)) (2 ^ 23)
  have b2 := scale_le (sv_mono S h2 (by rw [sInf]; omega) (by rw [sInf]; omega)) (2 ^ 23)
  rw [bd23' _ hq rfl, Int.mul_right_comm] at b1
  rw [bd23 _ hq rfl, Int.mul_right_comm] at b2
  have c1 := RN_mono b1
  have c2 := RN_mono b2
  rw [RN_exact _ hq] at c1 c2
  refine ⟨hm, ?_, ?_⟩
  · have : (-127 : Int) * ((2 ^ 23 : Nat) : Int) = -1065353216 := by decide
    omega
  · have : (128 : Int) * ((2 ^ 23 : Nat) : Int) = 1073741824 := by decide
    omega
theorem not_none {a : Int} (h : 0 ≤ a ∧ a < 4294967296) (hn : (rk a).natAbs ≤ 2139095040) : (V a).isNone = false := by
  by_cases hi : (rk a).natAbs < 2139095040
  · obtain ⟨w, r, e, _⟩ := V_at h hi; rw [e]; rfl
  · obtain ⟨w, e, _⟩ := V_inf h (by omega); rw [e]; rfl
/-- What the walk knows where a whole number is made. -/
theorem exp_in {a : Int} (h : 0 ≤ a ∧ a < 4294967296) (h1 : (V a).isNone = false) (h2 : (ord .f64 (V a) (some 4638707616191610880) == some .gt || ord .f64 (V a) (some 4638707616191610880) == some .eq) = false) (h3 : (ord .f64 (V a) (some 13862009284302209024) == some .lt) = false) : -1123942400 ≤ rk a ∧ rk a ≤ 1124073472 := by
  have hn : (rk a).natAbs ≤ 2139095040 := by
    apply Classical.byContradiction; intro q; rw [V_nan h q] at h1; cases h1
  rw [ord_K h hn k128 (by omega)] at h2
  rw [ord_K h hn km127 (by omega)] at h3
  constructor
  · rcases Int.lt_or_le (rk a) (-1123942400) with q | q
    · rw [Int.compare_eq_lt.2 q] at h3; cases h3
    · exact q
  · rcases Int.lt_or_le 1124073472 (rk a) with q | q
    · rw [Int.compare_eq_gt.2 q] at h2; cases h2
    · exact q
theorem EX_rk {a : Int} (h : 0 ≤ a ∧ a < 4294967296) (hn : (rk a).natAbs ≤ 2139095040) : rk (EX a) = if 1124073472 ≤ rk a then 2139095040 else if rk a < -1123942400 then 0 else RN (sv S (rk a) * ((2 ^ 23 : Nat) : Int)) + 1065353216 := by
  unfold EX
  rw [not_none h hn, ord_K h hn k128 (by omega), ord_K h hn km127 (by omega), if_neg (by decide)]
  by_cases c1 : 1124073472 ≤ rk a
  · rw [if_pos c1, if_pos]; · decide
    rcases Int.lt_or_eq_of_le c1 with q | q
    · rw [Int.compare_eq_gt.2 q]; rfl
    · rw [← q]; rfl
  · rw [if_neg c1, if_neg (by rw [Int.compare_eq_lt.2 (by omega)]; decide)]
    by_cases c2 : rk a < -1123942400
    · rw [if_pos c2, if_pos (by rw [Int.compare_eq_lt.2 c2]; rfl)]; decide
    · have hc : ¬ (some (compare (rk a) (-1123942400)) == some Ordering.lt) = true := by
        intro q
        have q2 : compare (rk a) (-1123942400) = .lt := by simpa using q
        exact c2 (Int.compare_eq_lt.1 q2)
      rw [if_neg c2, if_neg hc]
      obtain ⟨ha, b1, b2⟩ := ex_at h (by omega) (by omega)
      rw [RI_at ha]
      generalize RN (sv S (rk a) * ((2 ^ 23 : Nat) : Int)) = z at b1 b2
      unfold rk; rw [if_pos (by omega)]
theorem EX_mono {a b : Int} (ha : 0 ≤ a ∧ a < 4294967296) (hb : 0 ≤ b ∧ b < 4294967296) (na : (rk a).natAbs ≤ 2139095040) (nb : (rk b).natAbs ≤ 2139095040) (h : rk a ≤ rk b) : rk (EX a) ≤ rk (EX b) := by
  rw [EX_rk ha na, EX_rk hb nb]
  have m := RN_mono (scale_le (sv_mono S h (by rw [sInf]; omega) (by rw [sInf]; omega)) (2 ^ 23))
  by_cases c1 : 1124073472 ≤ rk b
  · rw [if_pos c1]
    split
    · omega
    · split
      · omega
      · have := (ex_at ha (by omega) (by omega)).2.2
        omega
  · rw [if_neg c1, if_neg (show ¬ 1124073472 ≤ rk a by omega)]
    by_cases c2 : rk a < -1123942400
    · rw [if_pos c2]
      split
      · omega
      · have := (ex_at hb (by omega) (by omega)).2.1
        omega
    · rw [if_neg c2, if_neg (show ¬ rk b < -1123942400 by omega)]
      omega
theorem EX_bd {a : Int} (h : 0 ≤ a ∧ a < 4294967296) : 0 ≤ EX a ∧ EX a < 4294967296 := by
  unfold EX
  split
  · omega
  · split
    · omega
    · split
      · omega
      · rename_i h1 h2 h3
        obtain ⟨b1, b2⟩ := exp_in h (Bool.eq_false_iff.2 h1) (Bool.eq_false_iff.2 h2) (Bool.eq_false_iff.2 h3)
        obtain ⟨ha, c1, c2⟩ := ex_at h b1 b2
        rw [RI_at ha]; omega
end Sl
