/- Plain lists for planes: what a plane's samples are, out of a function of places. No program is named here. -/
import Derived.Test.YtiikkhbmhojbaaaGreatSx
namespace Sx
open Go Go.RowKit
set_option linter.unusedVariables false

theorem madeCells_one (v : Value) (n : Nat) : (madeCells [v].toArray (n * 1)).toList = List.replicate n v := by
  apply List.ext_getElem
  · simp [madeCells]
  · intro i h1 h2
    simp [madeCells, Nat.mod_one]

/-- The samples of a plane W wide, k of them, out of a function of places. -/
def tab (W : Nat) (g : Nat → Nat → Int) (k : Nat) : List Int := (List.range k).map fun i => g (i % W) (i / W)
theorem tab_len (W : Nat) (g : Nat → Nat → Int) (k : Nat) : (tab W g k).length = k := by simp [tab]
/-- A sample's value. -/
def u32 (n : Int) : Value := .int .u32 n
def cur (W : Nat) (g : Nat → Nat → Int) (N k : Nat) : List Value := (tab W g k).map u32 ++ List.replicate (N - k) (.int .u32 0)
theorem cur_len (W : Nat) (g : Nat → Nat → Int) (N k : Nat) (h : k ≤ N) : (cur W g N k).length = N := by simp [cur, tab]; omega
theorem cur_zero (W : Nat) (g : Nat → Nat → Int) (N : Nat) : cur W g N 0 = List.replicate N (.int .u32 0) := by simp [cur, tab]
theorem cur_full (W : Nat) (g : Nat → Nat → Int) (N : Nat) : cur W g N N = (tab W g N).map u32 := by simp [cur]
theorem tab_succ (W : Nat) (g : Nat → Nat → Int) (k : Nat) : tab W g (k + 1) = tab W g k ++ [g (k % W) (k / W)] := by simp [tab, List.range_succ]
theorem cur_app (W : Nat) (g : Nat → Nat → Int) (N k : Nat) (v : Int) (h : k < N) (hv : v = g (k % W) (k / W)) : splice (cur W g N k) (k * 1) [.int .u32 v] = cur W g N (k + 1) := by
  have hl : ((tab W g k).map u32).length = k := by simp [tab]
  subst hv
  unfold splice cur
  rw [Nat.mul_one, List.take_left' hl, List.drop_append, tab_succ, hl]
  have e : ((tab W g k).map u32).drop (k + 1) = [] := List.drop_eq_nil_of_le (by omega)
  simp only [List.length_cons, List.length_nil, Nat.zero_add, e, List.map_append, List.map_cons, List.map_nil, List.nil_append, List.drop_replicate, u32]
  congr 2
  omega
theorem at_place {W x y : Nat} (hx : x < W) : (W * y + x) % W = x ∧ (W * y + x) / W = y := by
  exact ⟨by rw [Nat.mul_add_mod]; exact Nat.mod_eq_of_lt hx, by rw [Nat.mul_add_div (by omega), Nat.div_eq_of_lt hx, Nat.add_zero]⟩
theorem place_lt {W H x y : Nat} (hx : x < W) (hy : y < H) : W * y + x < W * H := by
  have h1 : W * (y + 1) ≤ W * H := Nat.mul_le_mul_left _ hy
  rw [Nat.mul_add, Nat.mul_one] at h1
  omega

/-- A function value that tells g's samples of a place, W wide and H high, in every world that has kept this one. -/
def Fn2 (P : Program) (w : World) (f : FuncId) (caps : Array Value) (W H : Nat) (g : Nat → Nat → Int) : Prop :=
  Own P f ∧ ∀ x y : Nat, x < W → y < H → ∀ w', Keep None w w' → Calls P f (#[.int .i64 x, .int .i64 y] ++ caps) w' (Ret w' (fun _ : Unit => True) (fun _ => .int .u32 (g x y)) (fun _ => []))
theorem Fn2.later {P : Program} {w w' : World} {f : FuncId} {caps : Array Value} {W H : Nat} {g : Nat → Nat → Int} (h : Fn2 P w f caps W H g) (k : Keep None w w') : Fn2 P w' f caps W H g :=
  ⟨h.1, fun x y hx hy w'' hk => h.2 x y hx hy w'' (k.trans hk (fun _ _ x => x))⟩

/-- The same over blocks that it captured, in every world that has kept wB and has these blocks. -/
def FnB (P : Program) (wB : World) (R : List Blk) (f : FuncId) (caps : Array Value) (W H : Nat) (g : Nat → Nat → Int) : Prop :=
  Own P f ∧ ∀ x y : Nat, x < W → y < H → ∀ w', Keep None wB w' → Has w' R → Calls P f (#[.int .i64 x, .int .i64 y] ++ caps) w' (Ret w' (fun _ : Unit => True) (fun _ => .int .u32 (g x y)) (fun _ => []))
theorem FnB.fn2 {P : Program} {wB w : World} {R : List Blk} {f : FuncId} {caps : Array Value} {W H : Nat} {g : Nat → Nat → Int} (h : FnB P wB R f caps W H g) (hk : Keep None wB w) (hR : Has w R) : Fn2 P w f caps W H g :=
  ⟨h.1, fun x y hx hy w' hk' => h.2 x y hx hy w' (hk.two hk') (hR.later hk')⟩
/-- A function that makes a maker out of a function of places. -/
def Mk (P : Program) (wB : World) (Rm : List Blk) (TF : TypeId) (mf : FuncId) (mcaps : Array Value) (W H W' H' : Nat) (G : (Nat → Nat → Int) → Nat → Nat → Int) : Prop :=
  Own P mf ∧ ∀ w', Keep None wB w' → Has w' Rm → ∀ fid caps R g, FnB P wB R fid caps W H g →
    Calls P mf (#[.func (.func fid) #[] caps] ++ mcaps) w' (Ret w' (fun x : Nat × FuncId × Array Value => FnB P wB ([⟨x.1, [.func (.func fid) #[] caps], TF, true⟩] ++ Rm ++ R) x.2.1 x.2.2 W' H' (G g)) (fun x => .agg #[.int .i64 (W' : Int), .int .i64 (H' : Int), .func (.func x.2.1) #[] x.2.2]) (fun x => [⟨x.1, [.func (.func fid) #[] caps], TF, true⟩]))
/-- A plane's size may be so. -/
def okP (W H : Nat) : Prop := 1 ≤ W ∧ 1 ≤ H ∧ W ≤ 1024 ∧ H ≤ 1024 ∧ W * H ≤ 65536
/-- The sample at a place. -/
def smp (xs : List Int) (W x y : Nat) : Int := xs.getD (W * y + x) 0
def sizeB (w h : Int) : Bool := decide (1 ≤ w ∧ 1 ≤ h ∧ w ≤ 1024 ∧ h ≤ 1024 ∧ w * h ≤ 65536)
theorem mul_bd {w h : Int} (h1 : 1 ≤ w) (h2 : 1 ≤ h) (h3 : w ≤ 1024) (h4 : h ≤ 1024) : 0 ≤ w * h ∧ w * h ≤ 1048576 := by
  have a := Int.mul_le_mul h3 h4 (by omega) (by omega)
  have b := Int.mul_nonneg (show (0 : Int) ≤ w by omega) (show (0 : Int) ≤ h by omega)
  omega
/-- What is wrong with a plane: its error. -/
def chk (W H : Int) (n : Nat) : Int := if sizeB W H then (if (n : Int) = W * H then 0 else 51) else 50
theorem sizeB_ok {W H : Nat} (h : okP W H) : sizeB W H = true := by
  obtain ⟨a, b, c, d, e⟩ := h
  have e' : (W : Int) * (H : Int) ≤ 65536 := by have := Int.natCast_mul W H; omega
  simp [sizeB, e']; omega
theorem chk_ok {W H : Nat} (h : okP W H) : chk W H (W * H) = 0 := by
  simp [chk, sizeB_ok h, Int.natCast_mul]
theorem chk_zero {W H : Int} {n : Nat} (h : chk W H n = 0) : ∃ w h' : Nat, W = w ∧ H = h' ∧ okP w h' ∧ n = w * h' := by
  unfold chk at h
  split at h
  · rename_i hs
    split at h
    · rename_i hn
      simp [sizeB] at hs
      obtain ⟨a, b, c, d, e⟩ := hs
      refine ⟨W.toNat, H.toNat, by omega, by omega, ⟨by omega, by omega, by omega, by omega, ?_⟩, ?_⟩
      · have h3 : ((W.toNat * H.toNat : Nat) : Int) = W * H := by rw [Int.natCast_mul, Int.toNat_of_nonneg (by omega), Int.toNat_of_nonneg (by omega)]
        omega
      · have h3 : ((W.toNat * H.toNat : Nat) : Int) = W * H := by rw [Int.natCast_mul, Int.toNat_of_nonneg (by omega), Int.toNat_of_nonneg (by omega)]
        omega
    · cases h
  · cases h
theorem sizeB_mul {W H : Int} (h : sizeB W H = true) : 0 ≤ W * H ∧ W * H ≤ 65536 := by
  simp [sizeB] at h
  have := mul_bd (w := W) (h := H) (by omega) (by omega) (by omega) (by omega)
  omega
theorem okP.swap {W H : Nat} (h : okP W H) : okP H W := ⟨h.2.1, h.1, h.2.2.2.1, h.2.2.1, by rw [Nat.mul_comm]; exact h.2.2.2.2⟩
/-- q pasted over p from (X, Y) on. -/
def pst (X Y : Int) (V U : Nat) (g1 g2 : Nat → Nat → Int) (i j : Nat) : Int :=
  if (X ≤ i ∧ (i : Int) < X + V) ∧ (Y ≤ j ∧ (j : Int) < Y + U) then g2 ((i : Int) - X).toNat ((j : Int) - Y).toNat else g1 i j
/-- A number modulo n, from 0 on. -/
def rst (i n : Int) : Int := (i.tmod n + n).tmod n
theorem tmod_bd (i : Int) {n : Int} (h : 1 ≤ n) : -n < i.tmod n ∧ i.tmod n < n := by
  have h1 := Int.tmod_lt_of_pos i (show (0 : Int) < n by omega)
  have h2 := Int.tmod_lt_of_pos (-i) (show (0 : Int) < n by omega)
  rw [Int.neg_tmod] at h2
  omega
theorem rst_eq (i : Int) {n : Int} (h : 1 ≤ n) : rst i n = i % n := by
  have hb := tmod_bd i h
  unfold rst
  rw [Int.tmod_eq_emod_of_nonneg (show 0 ≤ i.tmod n + n by omega), Int.add_emod_right]
  rw [Int.tmod_def, Int.sub_mul_emod_self_left]
theorem rst_bd (i : Int) {n : Int} (h : 1 ≤ n) : 0 ≤ rst i n ∧ rst i n < n := by
  rw [rst_eq i h]
  exact ⟨Int.emod_nonneg _ (by omega), Int.emod_lt_of_pos _ (by omega)⟩
/-- The place that stands for one beyond an edge, and the error. -/
def bord (k n i : Int) : Int × Int :=
  if k < 1 ∨ 3 < k then (0, 53) else if n < 1 ∨ 1024 < n then (0, 50) else if k = 1 then (min (max i 0) (n - 1), 0) else if k = 3 then (rst i n, 0)
  else if n = 1 then (0, 0) else (min (rst i (2 * (n - 1))) (2 * (n - 1) - rst i (2 * (n - 1))), 0)
theorem bord_ok {k n i : Int} (h1 : 1 ≤ k) (h2 : k ≤ 3) (h3 : 1 ≤ n) (h4 : n ≤ 1024) : (bord k n i).2 = 0 ∧ 0 ≤ (bord k n i).1 ∧ (bord k n i).1 < n := by
  unfold bord
  rw [if_neg (by omega), if_neg (by omega)]
  split
  · exact ⟨rfl, by dsimp only; omega, by dsimp only; omega⟩
  · split
    · have := rst_bd i h3; exact ⟨rfl, this.1, this.2⟩
    · split
      · exact ⟨rfl, Int.le_refl _, by dsimp only; omega⟩
      · have := rst_bd i (show 1 ≤ 2 * (n - 1) by omega); exact ⟨rfl, by dsimp only; omega, by dsimp only; omega⟩
theorem bord_in {k n i : Int} (h1 : 1 ≤ k) (h2 : k ≤ 3) (h3 : 1 ≤ n) (h4 : n ≤ 1024) (h5 : 0 ≤ i) (h6 : i < n) : (bord k n i).1 = i := by
  unfold bord
  rw [if_neg (by omega), if_neg (by omega)]
  split
  · dsimp only; omega
  · split
    · rw [rst_eq i h3]; exact Int.emod_eq_of_lt h5 h6
    · split
      · dsimp only; omega
      · rw [rst_eq i (by omega), Int.emod_eq_of_lt h5 (by omega)]; dsimp only; omega
theorem bord_wrap {n i : Int} (h3 : 1 ≤ n) : bord 3 n (i + n) = bord 3 n i := by
  unfold bord
  rw [rst_eq (i + n) h3, rst_eq i h3, Int.add_emod_right]; rfl
theorem bord_2 {n i : Int} (h : n ≠ 1) : bord 2 n i = if n < 1 ∨ 1024 < n then (0, 50) else (min (rst i (2 * (n - 1))) (2 * (n - 1) - rst i (2 * (n - 1))), 0) := by
  unfold bord
  rw [if_neg (by omega)]
  split
  · rfl
  · rw [if_neg (show ¬ ((2 : Int) = 1) by decide), if_neg (show ¬ ((2 : Int) = 3) by decide)]
theorem bord_two {n i : Int} (h3 : 1 ≤ n) : bord 2 n (i + 2 * (n - 1)) = bord 2 n i := by
  by_cases h : n = 1
  · subst h; rfl
  · rw [bord_2 h, bord_2 h, rst_eq (n := 2 * (n - 1)) (i + 2 * (n - 1)) (by omega), rst_eq (n := 2 * (n - 1)) i (by omega), Int.add_emod_right]
theorem neg_mod (i : Int) {m : Int} (h : 1 ≤ m) : (-i) % m = if i % m = 0 then 0 else m - i % m := by
  have h1 := Int.emod_add_mul_ediv i m
  have h2 := Int.emod_nonneg i (show m ≠ 0 by omega)
  have h3 := Int.emod_lt_of_pos i (show 0 < m by omega)
  split
  · rename_i h0
    rw [h0] at h1
    have : -i = 0 + m * (-(i / m)) := by rw [Int.mul_neg]; omega
    rw [this, Int.add_mul_emod_self_left]; rfl
  · have : -i = (m - i % m) + m * (-(i / m) - 1) := by rw [Int.mul_sub, Int.mul_neg, Int.mul_one]; omega
    rw [this, Int.add_mul_emod_self_left]
    exact Int.emod_eq_of_lt (by omega) (by omega)
theorem bord_neg {n i : Int} (h3 : 1 ≤ n) : bord 2 n (-i) = bord 2 n i := by
  by_cases h : n = 1
  · subst h; rfl
  · have h1 := neg_mod i (show 1 ≤ 2 * (n - 1) by omega)
    have h2 := Int.emod_nonneg i (show 2 * (n - 1) ≠ 0 by omega)
    have h4 := Int.emod_lt_of_pos i (show 0 < 2 * (n - 1) by omega)
    rw [bord_2 h, bord_2 h, rst_eq (n := 2 * (n - 1)) (-i) (by omega), rst_eq (n := 2 * (n - 1)) i (by omega), h1]
    generalize i % (2 * (n - 1)) = r at h2 h4 ⊢
    split
    · rfl
    · by_cases h0 : r = 0
      · rw [if_pos h0, h0]
      · rw [if_neg h0, show min (2 * (n - 1) - r) (2 * (n - 1) - (2 * (n - 1) - r)) = min r (2 * (n - 1) - r) by omega]
instance (W H : Nat) : Decidable (okP W H) := by unfold okP; infer_instance
theorem Rd.at {w : World} {b o k : Nat} {xs : List Int} (h : Rd w b o (xs.map u32)) (hk : k < xs.length) : w.cell? ⟨b, o + k, none⟩ = some (.int .u32 (xs.getD k 0)) :=
  h k _ (by simp [List.getD_eq_getElem?_getD, List.getElem?_eq_getElem hk, u32])
/-- The same plane? -/
def eqB (W1 H1 : Int) (xs : List Int) (W2 H2 : Int) (ys : List Int) : Bool := decide (W1 = W2 ∧ H1 = H2 ∧ xs = ys)
theorem getD_ext {xs ys : List Int} (hl : xs.length = ys.length) (h : ∀ j, j < xs.length → xs.getD j 0 = ys.getD j 0) : xs = ys := by
  apply List.ext_getElem hl
  intro i h1 h2
  have := h i h1
  simpa [List.getD_eq_getElem?_getD, List.getElem?_eq_getElem h1, List.getElem?_eq_getElem h2] using this
/-! ### Planes turned round -/
theorem tab_get {W H x y : Nat} (g : Nat → Nat → Int) (hx : x < W) (hy : y < H) : smp (tab W g (W * H)) W x y = g x y := by
  have h1 := place_lt hx hy
  have h2 := at_place (y := y) hx
  unfold smp tab
  rw [List.getD_eq_getElem?_getD, List.getElem?_map, List.getElem?_range h1]
  simp [h2.1, h2.2]
theorem tab_ext {W H : Nat} {g g' : Nat → Nat → Int} (h : ∀ x y, x < W → y < H → g x y = g' x y) : tab W g (W * H) = tab W g' (W * H) := by
  unfold tab
  refine List.map_congr_left fun i hi => ?_
  have hi' := List.mem_range.1 hi
  have hW : 0 < W := Nat.pos_of_ne_zero fun e => by subst e; simp at hi'
  exact h _ _ (Nat.mod_lt _ hW) (Nat.div_lt_of_lt_mul hi')
theorem tab_self {W H : Nat} {xs : List Int} (hx : xs.length = W * H) : tab W (fun x y => smp xs W x y) (W * H) = xs := by
  unfold tab
  apply List.ext_getElem
  · simp [hx]
  · intro i h1 h2
    simp only [List.getElem_map, List.getElem_range, smp]
    rw [Nat.div_add_mod, List.getD_eq_getElem?_getD, List.getElem?_eq_getElem h2]; rfl
def flT (xs : List Int) (W H : Nat) : List Int := tab W (fun x y => smp xs W (W - 1 - x) y) (W * H)
def flF (xs : List Int) (W H : Nat) : List Int := tab W (fun x y => smp xs W x (H - 1 - y)) (W * H)
def trp (xs : List Int) (W H : Nat) : List Int := tab H (fun x y => smp xs W y x) (H * W)
def tW (r W H : Nat) : Nat := if r % 2 = 1 then H else W
def tH (r W H : Nat) : Nat := if r % 2 = 1 then W else H
def trn (r : Nat) (xs : List Int) (W H : Nat) : List Int :=
  if r = 0 then tab W (fun x y => smp xs W x y) (W * H) else if r = 1 then tab H (fun x y => smp xs W y (H - 1 - x)) (H * W)
  else if r = 2 then tab W (fun x y => smp xs W (W - 1 - x) (H - 1 - y)) (W * H) else tab H (fun x y => smp xs W (W - 1 - y) x) (H * W)
theorem flT_two {xs : List Int} {W H : Nat} (hx : xs.length = W * H) : flT (flT xs W H) W H = xs := by
  conv => rhs; rw [← tab_self hx]
  refine tab_ext fun x y h1 h2 => ?_
  rw [flT, tab_get _ (by omega) h2]; congr 1; omega
theorem flF_two {xs : List Int} {W H : Nat} (hx : xs.length = W * H) : flF (flF xs W H) W H = xs := by
  conv => rhs; rw [← tab_self hx]
  refine tab_ext fun x y h1 h2 => ?_
  rw [flF, tab_get _ h1 (by omega)]; congr 1; omega
theorem trp_two {xs : List Int} {W H : Nat} (hx : xs.length = W * H) : trp (trp xs W H) H W = xs := by
  conv => rhs; rw [← tab_self hx]
  refine tab_ext fun x y h1 h2 => ?_
  rw [trp, tab_get _ h2 h1]
theorem trn_one {xs : List Int} {W H : Nat} : trn 1 xs W H = flT (trp xs W H) H W := by
  unfold trn flT
  rw [if_neg (by decide), if_pos rfl]
  refine tab_ext fun x y h1 h2 => ?_
  rw [trp, tab_get _ (by omega) h2]
theorem trn_half {xs : List Int} {W H : Nat} : flF (flT xs W H) W H = trn 2 xs W H := by
  unfold trn flF
  rw [if_neg (by decide), if_neg (by decide), if_pos rfl]
  refine tab_ext fun x y h1 h2 => ?_
  rw [flT, tab_get _ h1 (by omega)]
theorem trn_zero {xs : List Int} {W H : Nat} (hx : xs.length = W * H) : trn 0 xs W H = xs := by
  unfold trn; rw [if_pos rfl]; exact tab_self hx
theorem trn_trn {xs : List Int} {W H a b : Nat} (ha : a < 4) (hb : b < 4) : tW b (tW a W H) (tH a W H) = tW ((a + b) % 4) W H ∧ tH b (tW a W H) (tH a W H) = tH ((a + b) % 4) W H ∧ trn b (trn a xs W H) (tW a W H) (tH a W H) = trn ((a + b) % 4) xs W H := by
  have h : a = 0 ∨ a = 1 ∨ a = 2 ∨ a = 3 := by omega
  have h' : b = 0 ∨ b = 1 ∨ b = 2 ∨ b = 3 := by omega
  rcases h with rfl | rfl | rfl | rfl <;> rcases h' with rfl | rfl | rfl | rfl <;> refine ⟨rfl, rfl, ?_⟩ <;> simp only [trn, tW, tH, Nat.reduceAdd, Nat.reduceMod, Nat.reduceEqDiff, if_true, if_false] <;>
    (refine tab_ext fun x y h1 h2 => ?_) <;> rw [tab_get _ (by omega) (by omega)] <;> (try (congr 1 <;> omega))
theorem rst4 (q : Int) : rst q 4 = (((rst q 4).toNat : Nat) : Int) ∧ (rst q 4).toNat < 4 := by have := rst_bd q (show (1 : Int) ≤ 4 by decide); omega
theorem rst_add (p q : Int) : (rst (p + q) 4).toNat = ((rst p 4).toNat + (rst q 4).toNat) % 4 := by
  rw [rst_eq _ (by decide), rst_eq _ (by decide), rst_eq _ (by decide)]; omega
theorem rst_four (p : Int) : (rst (4 * p) 4).toNat = 0 := by rw [rst_eq _ (by decide)]; omega
theorem trn_len {xs : List Int} {W H r : Nat} (hr : r < 4) : (trn r xs W H).length = tW r W H * tH r W H := by
  unfold trn tW tH
  split
  · rename_i h; subst h; simp [tab]
  · split
    · rename_i h; subst h; simp [tab]
    · split
      · rename_i h; subst h; simp [tab]
      · rename_i a b c; have : r = 3 := by omega
        subst this; simp [tab]

theorem okP.turn {W H : Nat} (h : okP W H) (r : Nat) : okP (tW r W H) (tH r W H) := by
  unfold tW tH
  split
  · exact h.swap
  · exact h
theorem eqB_self {W1 H1 W2 H2 : Int} {xs ys : List Int} (h1 : W1 = W2) (h2 : H1 = H2) (h3 : xs = ys) : eqB W1 H1 xs W2 H2 ys = true := decide_eq_true ⟨h1, h2, h3⟩
theorem flT_len {xs : List Int} {W H : Nat} : (flT xs W H).length = W * H := tab_len _ _ _
theorem flF_len {xs : List Int} {W H : Nat} : (flF xs W H).length = W * H := tab_len _ _ _
theorem trp_len {xs : List Int} {W H : Nat} : (trp xs W H).length = H * W := tab_len _ _ _

/-! ### Pieces -/
/-- The piece w wide and h high from (x0, y0) on. -/
def crp (xs : List Int) (W x0 y0 w h : Nat) : List Int := tab w (fun x y => smp xs W (x0 + x) (y0 + y)) (w * h)
theorem crp_len {xs : List Int} {W x0 y0 w h : Nat} : (crp xs W x0 y0 w h).length = w * h := tab_len _ _ _
theorem crp_crp {xs : List Int} {W x0 y0 w h s0 t0 u v : Nat} (hu : s0 + u ≤ w) (hv : t0 + v ≤ h) : crp (crp xs W x0 y0 w h) w s0 t0 u v = crp xs W (x0 + s0) (y0 + t0) u v := by
  unfold crp
  refine tab_ext fun x y h1 h2 => ?_
  have := tab_get (W := w) (H := h) (x := s0 + x) (y := t0 + y) (fun x y => smp xs W (x0 + x) (y0 + y)) (by omega) (by omega)
  rw [this, Nat.add_assoc, Nat.add_assoc]
def pstd (xs ys : List Int) (W H V U : Nat) (X Y : Int) : List Int := tab W (pst X Y V U (smp xs W) (smp ys V)) (W * H)
theorem pst_back {xs : List Int} {W H x0 y0 w h : Nat} (hx : xs.length = W * H) (h1 : x0 + w ≤ W) (h2 : y0 + h ≤ H) {X Y : Int} (hX : X = x0) (hY : Y = y0) : pstd xs (crp xs W x0 y0 w h) W H w h X Y = xs := by
  conv => rhs; rw [← tab_self hx]
  unfold pstd
  refine tab_ext fun x y h3 h4 => ?_
  unfold pst
  split
  · rename_i hi
    subst hX hY
    unfold crp
    have := tab_get (W := w) (H := h) (x := ((x : Int) - x0).toNat) (y := ((y : Int) - y0).toNat) (fun x y => smp xs W (x0 + x) (y0 + y)) (by omega) (by omega)
    rw [this]; congr 1 <;> omega
  · rfl
def extd (xs : List Int) (W H Lf Tp Rg Bt : Nat) (k : Int) : List Int := tab (Lf + W + Rg) (fun x y => smp xs W (bord k W ((x : Int) - Lf)).1.toNat (bord k H ((y : Int) - Tp)).1.toNat) ((Lf + W + Rg) * (Tp + H + Bt))
theorem extd_mid {xs : List Int} {W H Lf Tp Rg Bt : Nat} {k : Int} (hok : okP W H) (hx : xs.length = W * H) (hk : 1 ≤ k ∧ k ≤ 3) : crp (extd xs W H Lf Tp Rg Bt k) (Lf + W + Rg) Lf Tp W H = xs := by
  conv => rhs; rw [← tab_self hx]
  unfold crp extd
  refine tab_ext fun x y h1 h2 => ?_
  rw [tab_get _ (by omega) (by omega), bord_in hk.1 hk.2 (by have := hok.1; omega) (by have := hok.2.2.1; omega) (by omega) (by omega), bord_in hk.1 hk.2 (by have := hok.2.1; omega) (by have := hok.2.2.2.1; omega) (by omega) (by omega)]
  congr 1 <;> omega
theorem bord_kind {k : Int} (h : (bord k 1 0).2 = 0) : 1 ≤ k ∧ k ≤ 3 := by
  unfold bord at h
  split at h
  · exact absurd h (by decide)
  · omega
theorem okP.part {W H w h : Nat} (hok : okP W H) (h1 : 1 ≤ w) (h2 : w ≤ W) (h3 : 1 ≤ h) (h4 : h ≤ H) : okP w h :=
  ⟨h1, h3, by have := hok.2.2.1; omega, by have := hok.2.2.2.1; omega, Nat.le_trans (Nat.mul_le_mul h2 h4) hok.2.2.2.2⟩
theorem okP_of {W H : Nat} (h : sizeB W H = true) : okP W H := by
  obtain ⟨w, h', e1, e2, ok, _⟩ := chk_zero (W := W) (H := H) (n := W * H) (by simp [chk, h, Int.natCast_mul])
  have : W = w := by omega
  have : H = h' := by omega
  subst_vars; exact ok

end Sx
