/- Plain lists for planes: what a plane's samples are, out of a function of places. No program is named here. -/
import Derived.Test.YtileciohbhoehaaSx
namespace Sx
open Go Go.RowKit
set_option linter.unusedVariables false

theorem madeCells_one (v : Value) (n : Nat) : (madeCells [v].toArray (n * 1)).toList = List.replicate n v := by
  apply List.ext_getElem
  · simp [madeCells]
  · intro i h1 h2
    simp [madeCells, Nat.mod_one]

/-- The samples of a plane W wide, k of them, out of a function of places. -/
def tab (W : Nat) (g : Nat → Nat → Int) (k : Nat) : List Int := (List.range k).map fun i => g (i % W) (i / W)
theorem tab_len (W : Nat) (g : Nat → Nat → Int) (k : Nat) : (tab W g k).length = k := by simp [tab]
/-- A sample's value. -/
def u32 (n : Int) : Value := .int .u32 n
def cur (W : Nat) (g : Nat → Nat → Int) (N k : Nat) : List Value := (tab W g k).map u32 ++ List.replicate (N - k) (.int .u32 0)
theorem cur_len (W : Nat) (g : Nat → Nat → Int) (N k : Nat) (h : k ≤ N) : (cur W g N k).length = N := by simp [cur, tab]; omega
theorem cur_zero (W : Nat) (g : Nat → Nat → Int) (N : Nat) : cur W g N 0 = List.replicate N (.int .u32 0) := by simp [cur, tab]
theorem cur_full (W : Nat) (g : Nat → Nat → Int) (N : Nat) : cur W g N N = (tab W g N).map u32 := by simp [cur]
theorem tab_succ (W : Nat) (g : Nat → Nat → Int) (k : Nat) : tab W g (k + 1) = tab W g k ++ [g (k % W) (k / W)] := by simp [tab, List.range_succ]
theorem cur_app (W : Nat) (g : Nat → Nat → Int) (N k : Nat) (v : Int) (h : k < N) (hv : v = g (k % W) (k / W)) : splice (cur W g N k) (k * 1) [.int .u32 v] = cur W g N (k + 1) := by
  have hl : ((tab W g k).map u32).length = k := by simp [tab]
  subst hv
  unfold splice cur
  rw [Nat.mul_one, List.take_left' hl, List.drop_append, tab_succ, hl]
  have e : ((tab W g k).map u32).drop (k + 1) = [] := List.drop_eq_nil_of_le (by omega)
  simp only [List.length_cons, List.length_nil, Nat.zero_add, e, List.map_append, List.map_cons, List.map_nil, List.nil_append, List.drop_replicate, u32]
  congr 2
  omega
theorem at_place {W x y : Nat} (hx : x < W) : (W * y + x) % W = x ∧ (W * y + x) / W = y := by
  exact ⟨by rw [Nat.mul_add_mod]; exact Nat.mod_eq_of_lt hx, by rw [Nat.mul_add_div (by omega), Nat.div_eq_of_lt hx, Nat.add_zero]⟩
theorem place_lt {W H x y : Nat} (hx : x < W) (hy : y < H) : W * y + x < W * H := by
  have h1 : W * (y + 1) ≤ W * H := Nat.mul_le_mul_left _ hy
  rw [Nat.mul_add, Nat.mul_one] at h1
  omega

/-- A function value that tells g's samples of a place, W wide and H high, in every world that has kept this one. -/
def Fn2 (P : Program) (w : World) (f : FuncId) (caps : Array Value) (W H : Nat) (g : Nat → Nat → Int) : Prop :=
  Own P f ∧ ∀ x y : Nat, x < W → y < H → ∀ w', Keep None w w' → Calls P f (#[.int .i64 x, .int .i64 y] ++ caps) w' (Ret w' (fun _ : Unit => True) (fun _ => .int .u32 (g x y)) (fun _ => []))
theorem Fn2.later {P : Program} {w w' : World} {f : FuncId} {caps : Array Value} {W H : Nat} {g : Nat → Nat → Int} (h : Fn2 P w f caps W H g) (k : Keep None w w') : Fn2 P w' f caps W H g :=
  ⟨h.1, fun x y hx hy w'' hk => h.2 x y hx hy w'' (k.trans hk (fun _ _ x => x))⟩

/-- The same over blocks that it captured, in every world that has kept wB and has these blocks. -/
def FnB (P : Program) (wB : World) (R : List Blk) (f : FuncId) (caps : Array Value) (W H : Nat) (g : Nat → Nat → Int) : Prop :=
  Own P f ∧ ∀ x y : Nat, x < W → y < H → ∀ w', Keep None wB w' → Has w' R → Calls P f (#[.int .i64 x, .int .i64 y] ++ caps) w' (Ret w' (fun _ : Unit => True) (fun _ => .int .u32 (g x y)) (fun _ => []))
theorem FnB.fn2 {P : Program} {wB w : World} {R : List Blk} {f : FuncId} {caps : Array Value} {W H : Nat} {g : Nat → Nat → Int} (h : FnB P wB R f caps W H g) (hk : Keep None wB w) (hR : Has w R) : Fn2 P w f caps W H g :=
  ⟨h.1, fun x y hx hy w' hk' => h.2 x y hx hy w' (hk.two hk') (hR.later hk')⟩
/-- A function that makes a maker out of a function of places. -/
def Mk (P : Program) (wB : World) (Rm : List Blk) (TF : TypeId) (mf : FuncId) (mcaps : Array Value) (W H W' H' : Nat) (G : (Nat → Nat → Int) → Nat → Nat → Int) : Prop :=
  Own P mf ∧ ∀ w', Keep None wB w' → Has w' Rm → ∀ fid caps R g, FnB P wB R fid caps W H g →
    Calls P mf (#[.func (.func fid) #[] caps] ++ mcaps) w' (Ret w' (fun x : Nat × FuncId × Array Value => FnB P wB ([⟨x.1, [.func (.func fid) #[] caps], TF, true⟩] ++ Rm ++ R) x.2.1 x.2.2 W' H' (G g)) (fun x => .agg #[.int .i64 (W' : Int), .int .i64 (H' : Int), .func (.func x.2.1) #[] x.2.2]) (fun x => [⟨x.1, [.func (.func fid) #[] caps], TF, true⟩]))
/-- A plane's size may be so. -/
def okP (W H : Nat) : Prop := 1 ≤ W ∧ 1 ≤ H ∧ W ≤ 1024 ∧ H ≤ 1024 ∧ W * H ≤ 65536
/-- The sample at a place. -/
def smp (xs : List Int) (W x y : Nat) : Int := xs.getD (W * y + x) 0
def sizeB (w h : Int) : Bool := decide (1 ≤ w ∧ 1 ≤ h ∧ w ≤ 1024 ∧ h ≤ 1024 ∧ w * h ≤ 65536)
theorem mul_bd {w h : Int} (h1 : 1 ≤ w) (h2 : 1 ≤ h) (h3 : w ≤ 1024) (h4 : h ≤ 1024) : 0 ≤ w * h ∧ w * h ≤ 1048576 := by
  have a := Int.mul_le_mul h3 h4 (by omega) (by omega)
  have b := Int.mul_nonneg (show (0 : Int) ≤ w by omega) (show (0 : Int) ≤ h by omega)
  omega
/-- What is wrong with a plane: its error. -/
def chk (W H : Int) (n : Nat) : Int := if sizeB W H then (if (n : Int) = W * H then 0 else 51) else 50
theorem sizeB_ok {W H : Nat} (h : okP W H) : sizeB W H = true := by
  obtain ⟨a, b, c, d, e⟩ := h
  have e' : (W : Int) * (H : Int) ≤ 65536 := by have := Int.natCast_mul W H; omega
  simp [sizeB, e']; omega
theorem chk_ok {W H : Nat} (h : okP W H) : chk W H (W * H) = 0 := by
  simp [chk, sizeB_ok h, Int.natCast_mul]
theorem chk_zero {W H : Int} {n : Nat} (h : chk W H n = 0) : ∃ w h' : Nat, W = w ∧ H = h' ∧ okP w h' ∧ n = w * h' := by
  unfold chk at h
  split at h
  · rename_i hs
    split at h
    · rename_i hn
      simp [sizeB] at hs
      obtain ⟨a, b, c, d, e⟩ := hs
      refine ⟨W.toNat, H.toNat, by omega, by omega, ⟨by omega, by omega, by omega, by omega, ?_⟩, ?_⟩
      · have h3 : ((W.toNat * H.toNat : Nat) : Int) = W * H := by rw [Int.natCast_mul, Int.toNat_of_nonneg (by omega), Int.toNat_of_nonneg (by omega)]
        omega
      · have h3 : ((W.toNat * H.toNat : Nat) : Int) = W * H := by rw [Int.natCast_mul, Int.toNat_of_nonneg (by omega), Int.toNat_of_nonneg (by omega)]
        omega
    · cases h
  · cases h
theorem sizeB_mul {W H : Int} (h : sizeB W H = true) : 0 ≤ W * H ∧ W * H ≤ 65536 := by
  simp [sizeB] at h
  have := mul_bd (w := W) (h := H) (by omega) (by omega) (by omega) (by omega)
  omega
theorem okP.swap {W H : Nat} (h : okP W H) : okP H W := ⟨h.2.1, h.1, h.2.2.2.1, h.2.2.1, by rw [Nat.mul_comm]; exact h.2.2.2.2⟩
/-- q pasted over p from (X, Y) on. -/
def pst (X Y : Int) (V U : Nat) (g1 g2 : Nat → Nat → Int) (i j : Nat) : Int :=
  if (X ≤ i ∧ (i : Int) < X + V) ∧ (Y ≤ j ∧ (j : Int) < Y + U) then g2 ((i : Int) - X).toNat ((j : Int) - Y).toNat else g1 i j
/-- A number modulo n, from 0 on. -/
def rst (i n : Int) : Int := (i.tmod n + n).tmod n
theorem tmod_bd (i : Int) {n : Int} (h : 1 ≤ n) : -n < i.tmod n ∧ i.tmod n < n := by
  have h1 := Int.tmod_lt_of_pos i (show (0 : Int) < n by omega)
  have h2 := Int.tmod_lt_of_pos (-i) (show (0 : Int) < n by omega)
  rw [Int.neg_tmod] at h2
  omega
theorem rst_eq (i : Int) {n : Int} (h : 1 ≤ n) : rst i n = i % n := by
  have hb := tmod_bd i h
  unfold rst
  rw [Int.tmod_eq_emod_of_nonneg (show 0 ≤ i.tmod n + n by omega), Int.add_emod_right]
  rw [Int.tmod_def, Int.sub_mul_emod_self_left]
theorem rst_bd (i : Int) {n : Int} (h : 1 ≤ n) : 0 ≤ rst i n ∧ rst i n < n := by
  rw [rst_eq i h]
  exact ⟨Int.emod_nonneg _ (by omega), Int.emod_lt_of_pos _ (by omega)⟩
/-- The place that stands for one beyond an edge, and the error. -/
def bord (k n i : Int) : Int × Int :=
  if k < 1 ∨ 3 < k then (0, 53) else if n < 1 ∨ 1024 < n then (0, 50) else if k = 1 then (min (max i 0) (n - 1), 0) else if k = 3 then (rst i n, 0)
  else if n = 1 then (0, 0) else (min (rst i (2 * (n - 1))) (2 * (n - 1) - rst i (2 * (n - 1))), 0)
theorem bord_ok {k n i : Int} (h1 : 1 ≤ k) (h2 : k ≤ 3) (h3 : 1 ≤ n) (h4 : n ≤ 1024) : (bord k n i).2 = 0 ∧ 0 ≤ (bord k n i).1 ∧ (bord k n i).1 < n := by
  unfold bord
  rw [if_neg (by omega), if_neg (by omega)]
  split
  · exact ⟨rfl, by dsimp only; omega, by dsimp only; omega⟩
  · split
    · have := rst_bd i h3; exact ⟨rfl, this.1, this.2⟩
    · split
      · exact ⟨rfl, Int.le_refl _, by dsimp only; omega⟩
      · have := rst_bd i (show 1 ≤ 2 * (n - 1) by omega); exact ⟨rfl, by dsimp only; omega, by dsimp only; omega⟩
instance (W H : Nat) : Decidable (okP W H) := by unfold okP; infer_instance
theorem Rd.at {w : World} {b o k : Nat} {xs : List Int} (h : Rd w b o (xs.map u32)) (hk : k < xs.length) : w.cell? ⟨b, o + k, none⟩ = some (.int .u32 (xs.getD k 0)) :=
  h k _ (by simp [List.getD_eq_getElem?_getD, List.getElem?_eq_getElem hk, u32])
/-- The same plane? -/
def eqB (W1 H1 : Int) (xs : List Int) (W2 H2 : Int) (ys : List Int) : Bool := decide (W1 = W2 ∧ H1 = H2 ∧ xs = ys)
theorem getD_ext {xs ys : List Int} (hl : xs.length = ys.length) (h : ∀ j, j < xs.length → xs.getD j 0 = ys.getD j 0) : xs = ys := by
  apply List.ext_getElem hl
  intro i h1 h2
  have := h i h1
  simpa [List.getD_eq_getElem?_getD, List.getElem?_eq_getElem h1, List.getElem?_eq_getElem h2] using this
end Sx
