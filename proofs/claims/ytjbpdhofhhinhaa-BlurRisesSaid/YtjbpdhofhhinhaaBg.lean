/- Blurs and slopes of planes, in plain Lean. -/
import Derived.Test.YtjbpdhofhhinhaaBl
import Derived.Test.YtjbpdhofhhinhaaPl
import Derived.Test.YtjbpdhofhhinhaaDc
import Derived.Test.YtjbpdhofhhinhaaWt
namespace Bg
open Sx Bl Fv Go
set_option linter.unusedVariables false
theorem smp_bd {xs : List Int} (hu : ∀ v ∈ xs, 0 ≤ v ∧ v < 4294967296) (W x y : Nat) : 0 ≤ smp xs W x y ∧ smp xs W x y < 4294967296 := by
  unfold smp
  rw [List.getD_eq_getElem?_getD]
  cases h : xs[W * y + x]? with
  | none => simp
  | some v => exact hu v (List.mem_of_getElem? h)
def nx (xs : List Int) (W : Nat) (k : Int) (x y : Nat) (t : Int) : Int := smp xs W (bord k W (x + t)).1.toNat y
def ny (xs : List Int) (W H : Nat) (k : Int) (x y : Nat) (t : Int) : Int := smp xs W x (bord k H (y + t)).1.toNat
/-- Slopes across and down. -/
def slx (xs : List Int) (W : Nat) (k : Int) (x y : Nat) : Int := T (slp (nx xs W k x y 1) (nx xs W k x y (-1)))
def sly (xs : List Int) (W H : Nat) (k : Int) (x y : Nat) : Int := T (slp (ny xs W H k x y 1) (ny xs W H k x y (-1)))
theorem slp_ok {xs : List Int} (hu : ∀ v ∈ xs, 0 ≤ v ∧ v < 4294967296) (W a b c d : Nat) : Holds .f64 .f32 (slp (smp xs W a b) (smp xs W c d)) := slp_holds (smp_bd hu W a b) (smp_bd hu W c d)
theorem isb_lt {X : Nat} {x : Option Nat} (h : IsB .f32 X x) : (0 : Int) ≤ (X : Int) ∧ (X : Int) < 4294967296 := by
  have e : FloatKind.f32.format.signWeight = 2147483648 := by decide +kernel
  have := h.2; rw [e] at this; omega
theorem T_none {x : Option Nat} (h : x.isNone = true) : T x = 2143289344 := by
  cases x with
  | none => rfl
  | some b => cases h
theorem T_some {z : Nat} {x : Option Nat} (h : IsB .f32 z (cv .f64 .f32 x)) (hH : Holds .f64 .f32 x) (hn : x.isNone = false) : T x = (z : Int) := by
  cases x with
  | none => cases hn
  | some b =>
    obtain ⟨r, hr⟩ := Option.isSome_iff_exists.1 (hH b rfl)
    have hc : cv .f64 .f32 (some b) = some r := hr
    rw [hc] at h
    unfold T; rw [hc]; obtain ⟨⟨rfl, _⟩, _⟩ := h; rfl
/-- What is told is a sample. -/
theorem T_bd (x : Option Nat) : 0 ≤ T x ∧ T x < 4294967296 := by
  unfold T
  cases h : cv .f64 .f32 x with
  | none => show 0 ≤ (2143289344 : Int) ∧ (2143289344 : Int) < 4294967296; omega
  | some b =>
    cases x with
    | none => cases h
    | some a =>
      have e : FloatKind.f32.format.signWeight = 2147483648 := by decide +kernel
      have := cv_lt (s := .f64) (k := .f32) (by decide) (show floatToFloatBits .f64 a .f32 = some b from h)
      rw [e] at this
      show 0 ≤ (b : Int) ∧ (b : Int) < 4294967296; omega
theorem tab_bd {W : Nat} {g : Nat → Nat → Int} {n : Nat} (h : ∀ x y, 0 ≤ g x y ∧ g x y < 4294967296) : ∀ v ∈ tab W g n, 0 ≤ v ∧ v < 4294967296 := by
  intro v hv
  unfold tab at hv
  obtain ⟨i, _, rfl⟩ := List.mem_map.1 hv
  exact h _ _
theorem bX {k : Int} {W H : Nat} {i : Int} (hk : 1 ≤ k ∧ k ≤ 3) (hok : okP W H) : (bord k W i).1.toNat < W := by
  have h := hok.1; have h2 := hok.2.2.1
  have := bord_ok (k := k) (n := W) (i := i) hk.1 hk.2 (by omega) (by omega); omega
theorem bY {k : Int} {W H : Nat} {i : Int} (hk : 1 ≤ k ∧ k ≤ 3) (hok : okP W H) : (bord k H i).1.toNat < H := by
  have h := hok.2.1; have h2 := hok.2.2.2.1
  have := bord_ok (k := k) (n := H) (i := i) hk.1 hk.2 (by omega) (by omega); omega
theorem at_lt {W H n x y : Nat} (hok : okP W H) (hn : n = W * H) (hx : x < W) (hy : y < H) : W * y + x < n := by rw [hn]; exact place_lt hx hy
theorem get_bd {xs : List Int} (hu : ∀ v ∈ xs, 0 ≤ v ∧ v < 4294967296) (i : Nat) : 0 ≤ xs.getD i 0 ∧ xs.getD i 0 < 4294967296 := by
  rw [List.getD_eq_getElem?_getD]
  cases h : xs[i]? with
  | none => simp
  | some v => exact hu v (List.mem_of_getElem? h)
/-- The weights of both kernels. -/
def gk (kd : Int) (r : Nat) : Nat → Int := if kd = 1 then pv (2 * r) else fun _ => 1
theorem pv_pos : ∀ n, n < 15 → ∀ j, j < 16 → 1 ≤ pv n j := by decide +kernel
theorem gk_bd {kd : Int} {r : Nat} (hr : r ≤ 7) : ∀ i, i < 2 * r + 1 → 1 ≤ gk kd r i ∧ gk kd r i ≤ 16384 := by
  intro i hi
  unfold gk
  split
  · exact ⟨pv_pos _ (by omega) _ (by omega), (pv_bd _ (by omega) _ (by omega)).2⟩
  · show (1 : Int) ≤ 1 ∧ (1 : Int) ≤ 16384
    decide
/-- A blur across, a blur down, both. -/
def blx (g : Nat → Int) (r : Nat) (xs : List Int) (W : Nat) (k : Int) (x y : Nat) : Int := wgh g (fun i => nx xs W k x y (((i : Nat) : Int) - ((r : Nat) : Int))) (2 * r + 1)
def bly (g : Nat → Int) (r : Nat) (xs : List Int) (W H : Nat) (k : Int) (x y : Nat) : Int := wgh g (fun i => ny xs W H k x y (((i : Nat) : Int) - ((r : Nat) : Int))) (2 * r + 1)
def blr (g : Nat → Int) (r : Nat) (xs : List Int) (W H : Nat) (k : Int) : Nat → Nat → Int := bly g r (tab W (blx g r xs W k) (W * H)) W H k
theorem blx_bd {g : Nat → Int} {r : Nat} {xs : List Int} {W : Nat} {k : Int} (x y : Nat) : 0 ≤ blx g r xs W k x y ∧ blx g r xs W k x y < 4294967296 := T_bd _
theorem quo_half (r : Nat) (h : r ≤ 7) : IntKind.i64.wrap (Int.tdiv ((2 * r + 1 : Nat) : Int) 2) = ((r : Nat) : Int) := by
  have h1 : Int.tdiv ((2 * r + 1 : Nat) : Int) 2 = (((2 * r + 1) / 2 : Nat) : Int) := rfl
  rw [h1, IntKind.wrap_i64]; omega
theorem rep_u32 (n : Nat) : (List.replicate n (0 : Int)).map u32 = List.replicate n (Value.int .u32 0) := by rw [List.map_replicate]; rfl
theorem tab1 {f : Nat → Nat → Int} {m i : Nat} (h : i < m) : (tab 1 f m).getD i 0 = f 0 i := by
  rw [List.getD_eq_getElem?_getD]; simp [tab, h, Nat.mod_one]
theorem div1 {v : Int} {f : Nat → Int} {j : Nat} (h : v = f j) : v = f (j / 1) := by rw [Nat.div_one]; exact h
end Bg
