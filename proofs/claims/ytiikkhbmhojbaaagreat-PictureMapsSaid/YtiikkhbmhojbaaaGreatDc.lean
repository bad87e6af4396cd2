/- What the document's planes are made by, in plain Lean. No program is named here. -/
import Derived.Test.YtiikkhbmhojbaaaGreatBk
import Derived.Test.YtiikkhbmhojbaaaGreatOw
import Derived.Test.YtiikkhbmhojbaaaGreatUn
namespace Sx
open Go
set_option linter.unusedVariables false
theorem remN (k W : Nat) : Int.tmod ((k : Nat) : Int) ((W : Nat) : Int) = ((k % W : Nat) : Int) := rfl
theorem quoN {k W : Nat} (h : k ≤ 4611686018427387904) : IntKind.i64.wrap (Int.tdiv ((k : Nat) : Int) ((W : Nat) : Int)) = ((k / W : Nat) : Int) := by
  show IntKind.i64.wrap ((k / W : Nat) : Int) = _
  have : k / W ≤ k := Nat.div_le_self _ _
  generalize k / W = q at this ⊢
  exact w64 (by omega)
theorem addN {a b : Nat} (h : a + b ≤ 4611686018427387904) : IntKind.i64.wrap (((a : Nat) : Int) + ((b : Nat) : Int)) = ((a + b : Nat) : Int) := by
  rw [← Int.natCast_add]; exact w64 (by omega)
theorem subN {a b : Nat} (h : b ≤ a) (ha : a ≤ 4611686018427387904) : IntKind.i64.wrap (((a : Nat) : Int) - ((b : Nat) : Int)) = ((a - b : Nat) : Int) := by
  rw [← Int.ofNat_sub h]; exact w64 (by omega)
theorem mulN {a b : Nat} (h : a * b ≤ 4611686018427387904) : IntKind.i64.wrap (((a : Nat) : Int) * ((b : Nat) : Int)) = ((a * b : Nat) : Int) := by
  rw [← Int.natCast_mul]; exact w64 (by omega)
theorem mulN' {a b : Nat} (h : b * a ≤ 4611686018427387904) : IntKind.i64.wrap (((a : Nat) : Int) * ((b : Nat) : Int)) = ((b * a : Nat) : Int) := by
  rw [mulN (by rw [Nat.mul_comm]; exact h), Nat.mul_comm]
/-- The samples of a lent list. -/
theorem Rd.lent {w : World} {b o : Nat} {xs ys : List Int} (h : Rd w b o ((xs ++ ys).map u32)) : Rd w b o (xs.map u32) := fun j v hj => by
  have hl : j < (xs.map u32).length := (List.getElem?_eq_some_iff.1 hj).1
  exact h j v (by rw [List.map_append, List.getElem?_append_left hl]; exact hj)
/-- A plane's samples, the first k of them told anew. -/
def pcr (W : Nat) (g : Nat → Nat → Int) (xs : List Int) (k : Nat) : List Value := (tab W g k ++ xs.drop k).map u32
theorem pcr_zero (W : Nat) (g : Nat → Nat → Int) (xs : List Int) : pcr W g xs 0 = xs.map u32 := by simp [pcr, tab]
theorem pcr_full {W : Nat} {g : Nat → Nat → Int} {xs : List Int} {k : Nat} (h : xs.length = k) : pcr W g xs k = (tab W g k).map u32 := by simp [pcr, ← h]
theorem pcr_len {W : Nat} {g : Nat → Nat → Int} {xs : List Int} {k : Nat} (h : k ≤ xs.length) : (pcr W g xs k).length = xs.length := by simp [pcr, tab_len]; omega
theorem pcr_app {W : Nat} {g : Nat → Nat → Int} {xs : List Int} {k : Nat} {v : Int} (h : k < xs.length) (hv : v = g (k % W) (k / W)) : splice (pcr W g xs k) k [.int .u32 v] = pcr W g xs (k + 1) := by
  subst hv
  unfold splice pcr
  have h1 : ((tab W g k).map u32).length = k := by simp [tab_len]
  rw [List.map_append, List.take_append_of_le_length (by omega), List.take_of_length_le (by omega), List.drop_append, List.drop_of_length_le (by rw [h1]; simp), h1, tab_succ]
  simp [u32, List.drop_drop]
theorem pcr_same {W : Nat} {g : Nat → Nat → Int} {xs : List Int} {k : Nat} (h : k < xs.length) (hv : xs.getD k 0 = g (k % W) (k / W)) : pcr W g xs k = pcr W g xs (k + 1) := by
  unfold pcr
  rw [tab_succ, ← hv, List.drop_eq_getElem_cons h]
  simp [List.getD_eq_getElem?_getD, List.getElem?_eq_getElem h]
theorem smp_at {xs : List Int} {W k : Nat} : smp xs W (k % W) (k / W) = xs.getD k 0 := by unfold smp; rw [Nat.div_add_mod]
theorem cur_app' (W : Nat) (g : Nat → Nat → Int) (N k : Nat) (v : Int) (h : k < N) (hv : v = g (k % W) (k / W)) : splice (cur W g N k) k [.int .u32 v] = cur W g N (k + 1) := by
  have := cur_app W g N k v h hv; rwa [Nat.mul_one] at this
theorem trn_step {xs : List Int} {W H j : Nat} (hj : j + 1 < 4) : tW 1 (tW j W H) (tH j W H) = tW (j + 1) W H ∧ tH 1 (tW j W H) (tH j W H) = tH (j + 1) W H ∧ trn 1 (trn j xs W H) (tW j W H) (tH j W H) = trn (j + 1) xs W H := by
  have := trn_trn (xs := xs) (W := W) (H := H) (a := j) (b := 1) (by omega) (by decide)
  rwa [Nat.mod_eq_of_lt hj] at this
theorem Lst.lent {w w' : World} {ad : Option Addr} {n a : Nat} {xs ys : List Int} (h : Lst w ad n xs) (hr : Rd w' a 0 ((xs ++ ys).map u32)) : Lst w' (some ⟨a, 0, none⟩) n xs := ⟨h.1, h.2.1, h.2.2.1, Or.inr ⟨a, 0, rfl, hr.lent⟩⟩
/-- A list of samples that can be read, wherever it stands; or none. -/
def LsR (w : World) (ad : Option Addr) (n : Nat) (xs : List Int) : Prop := xs.length = n ∧ (n = 0 ∨ ∃ b o, ad = some ⟨b, o, none⟩ ∧ Rd w b o (xs.map u32))
theorem LsR.nil (w : World) (ad : Option Addr) : LsR w ad 0 [] := ⟨rfl, Or.inl rfl⟩
theorem LsR.blk {w : World} {b o n : Nat} {xs : List Int} (h : xs.length = n) (hr : Rd w b o (xs.map u32)) : LsR w (some ⟨b, o, none⟩) n xs := ⟨h, Or.inr ⟨b, o, rfl, hr⟩⟩
theorem LsR.later {w w' : World} {ad : Option Addr} {n : Nat} {xs : List Int} (h : LsR w ad n xs) (hk : Keep None w w') : LsR w' ad n xs := ⟨h.1, h.2.imp id fun ⟨b, o, e, hr⟩ => ⟨b, o, e, hr.later hk⟩⟩
theorem Lst.r {w : World} {ad : Option Addr} {n : Nat} {xs : List Int} (h : Lst w ad n xs) : LsR w ad n xs := ⟨h.1, h.2.2.2⟩
end Sx
