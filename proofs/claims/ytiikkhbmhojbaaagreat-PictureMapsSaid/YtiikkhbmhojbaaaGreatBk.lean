/- What a Room lends and a Book marks, in plain Lean. No program is named here. -/
import Derived.Test.YtiikkhbmhojbaaaGreatPl
namespace Sx
open Go
set_option linter.unusedVariables false
/-- What stands behind a lent list. -/
def fil (i : Nat) : Int := (2141192202 + (i : Int)) % 4294967296
def fls (n k : Nat) : List Int := (List.range k).map fun j => fil (n + j)
def roomL (xs : List Int) : List Int := xs ++ fls xs.length 5
/-- A lent list under way. -/
def roomC (xs : List Int) (k : Nat) : List Value := (xs ++ fls xs.length k).map u32 ++ List.replicate (5 - k) (.int .u32 0)
theorem fls_len (n k : Nat) : (fls n k).length = k := by simp [fls]
theorem roomL_len (xs : List Int) : (roomL xs).length = xs.length + 5 := by simp [roomL, fls_len]
theorem roomC_len {xs : List Int} {k : Nat} (h : k ≤ 5) : (roomC xs k).length = xs.length + 5 := by simp [roomC, fls_len]; omega
theorem roomC_full (xs : List Int) : roomC xs 5 = (roomL xs).map u32 := by simp [roomC, roomL]
theorem roomC_zero (xs : List Int) {n : Nat} (h : xs.length = n) : splice (List.replicate (n + 5) (.int .u32 0)) 0 (xs.map u32) = roomC xs 0 := by
  simp [splice, roomC, fls, h]
theorem roomC_store {xs : List Int} {n k : Nat} (h : xs.length = n) (hk : k < 5) : splice (roomC xs k) (n + k) [.int .u32 (fil (n + k))] = roomC xs (k + 1) := by
  subst h
  unfold splice roomC
  have h1 : ((xs ++ fls xs.length k).map u32).length = xs.length + k := by simp [fls_len]
  have h2 : fls xs.length (k + 1) = fls xs.length k ++ [fil (xs.length + k)] := by simp [fls, List.range_succ]
  rw [List.take_append_of_le_length (by rw [h1]; exact Nat.le_refl _), List.take_of_length_le (by rw [h1]; exact Nat.le_refl _), List.drop_append, List.drop_of_length_le (by rw [h1]; simp), h1, h2]
  simp [u32]
  omega
theorem u32_one (xs : List Int) : ∀ v ∈ xs.map u32, v.oneCell' = true := fun v hv => by
  obtain ⟨x, _, rfl⟩ := List.mem_map.1 hv; rfl
theorem u32_all (xs : List Int) : (xs.map u32).all (·.oneCell') = true := List.all_eq_true.2 (u32_one xs)
theorem u32_at {xs : List Int} {k : Nat} (h : k < xs.length) : (xs.map u32)[k]? = some (.int .u32 (xs.getD k 0)) := by
  simp [List.getD_eq_getElem?_getD, List.getElem?_eq_getElem h, u32]
theorem u32_at' {xs : List Int} {k : Nat} (sp : List Value) (h : k < xs.length) : (xs.map u32 ++ sp)[k]? = some (.int .u32 (xs.getD k 0)) := by
  rw [List.getElem?_append_left (by simpa using h)]; exact u32_at h
/-- A mark, as it is reckoned. -/
def mkI (m i : Int) : Int := IntKind.i64.wrap ((IntKind.i64.wrap (IntKind.i64.wrap (IntKind.i64.wrap (m * 31) + IntKind.i64.wrap (i * 7)) + 1)).tmod 250 + 1)
def mk (m : Int) (i : Nat) : Int := (mkI m (i : Int)) % 4294967296
def mks (m : Int) (k : Nat) : List Int := (List.range k).map (mk m)
def mkC (m : Int) (cs : List Value) (k : Nat) : List Value := (mks m k).map u32 ++ cs.drop k
theorem mks_len (m : Int) (k : Nat) : (mks m k).length = k := by simp [mks]
theorem mkC_zero (m : Int) (cs : List Value) : mkC m cs 0 = cs := by simp [mkC, mks]
theorem mkC_len (m : Int) (cs : List Value) (k : Nat) (h : k ≤ cs.length) : (mkC m cs k).length = cs.length := by simp [mkC, mks]; omega
theorem mkC_full (m : Int) (cs : List Value) (k : Nat) (h : cs.length = k) : mkC m cs k = (mks m k).map u32 := by simp [mkC, ← h]
theorem mkC_store {m : Int} {cs : List Value} {k : Nat} (h : k < cs.length) : splice (mkC m cs k) k [.int .u32 (mk m k)] = mkC m cs (k + 1) := by
  unfold splice mkC
  have h1 : ((mks m k).map u32).length = k := by simp [mks]
  have h2 : mks m (k + 1) = mks m k ++ [mk m k] := by simp [mks, List.range_succ]
  rw [List.take_append_of_le_length (by omega), List.take_of_length_le (by omega), List.drop_append, List.drop_of_length_le (by simp [mks]), h1, h2]
  simp [u32, List.drop_drop]
theorem mks_at {m : Int} {k n : Nat} (h : k < n) : (mks m n).getD k 0 = mk m k := by
  simp [mks, List.getD_eq_getElem?_getD, h]
/-- A list that a Book keeps: its address, its room, its mark's number. -/
structure It where
  ad : Option Addr
  cap : Nat
  m : Int
def It.v (t : It) : Value := .slice t.ad t.cap t.cap
def It.mv (t : It) : Value := .int .i64 t.m
def It.Ok (w : World) (t : It) : Prop := t.cap ≤ 9223372036854775807 ∧ (t.cap = 0 ∨ ∃ b, t.ad = some ⟨b, 0, none⟩ ∧ Rd w b 0 ((mks t.m t.cap).map u32))
def itAt (its : List It) (n : Nat) : It := its.getD n ⟨none, 0, 0⟩
theorem it_at {its : List It} {n : Nat} (h : n < its.length) (sp : List Value) : (its.map It.v ++ sp)[n]? = some (.slice (itAt its n).ad (itAt its n).cap (itAt its n).cap) := by
  rw [List.getElem?_append_left (by simpa using h)]
  simp [itAt, List.getD_eq_getElem?_getD, List.getElem?_eq_getElem h, It.v]
theorem it_mv {its : List It} {n : Nat} (h : n < its.length) (sp : List Value) : (its.map It.mv ++ sp)[n]? = some (.int .i64 (itAt its n).m) := by
  rw [List.getElem?_append_left (by simpa using h)]
  simp [itAt, List.getD_eq_getElem?_getD, List.getElem?_eq_getElem h, It.mv]
theorem it_ok {w : World} {its : List It} {n : Nat} (h : n < its.length) (hk : ∀ t ∈ its, It.Ok w t) : It.Ok w (itAt its n) := by
  have : itAt its n = its[n] := by simp [itAt, List.getD_eq_getElem?_getD, List.getElem?_eq_getElem h]
  rw [this]; exact hk _ (List.getElem_mem h)
theorem Rd.mkat {w : World} {b k n : Nat} {m : Int} (h : Rd w b 0 ((mks m n).map u32)) (hk : k < n) : w.cell? ⟨b, k, none⟩ = some (.int .u32 (mk m k)) := by
  have := h k (.int .u32 (mk m k)) (by rw [u32_at (by rw [mks_len]; exact hk), mks_at hk])
  simpa using this
theorem it_all {w : World} : ∀ t ∈ ([] : List It), It.Ok w t := fun t h => by simp at h
theorem it_cons {w : World} {t : It} {its : List It} (h : It.Ok w t) (hs : ∀ t ∈ its, It.Ok w t) : ∀ u ∈ t :: its, It.Ok w u := fun u hu => by
  rcases List.mem_cons.1 hu with rfl | hu
  · exact h
  · exact hs u hu
theorem it_nil {w : World} (m : Int) : It.Ok w ⟨none, 0, m⟩ := ⟨Nat.zero_le _, Or.inl rfl⟩
theorem it_blk {w : World} {b cap : Nat} {m : Int} (hc : cap ≤ 9223372036854775807) (h : Rd w b 0 ((mks m cap).map u32)) : It.Ok w ⟨some ⟨b, 0, none⟩, cap, m⟩ := ⟨hc, Or.inr ⟨b, rfl, h⟩⟩
/-! Lists of whole numbers that are kept. -/
def mkvI (m : Int) (k : Nat) : List Value := (List.range k).map fun i : Nat => Value.int .i64 (mkI m (i : Int))
def mkCI (m : Int) (cs : List Value) (k : Nat) : List Value := mkvI m k ++ cs.drop k
theorem mkvI_len (m : Int) (k : Nat) : (mkvI m k).length = k := by simp [mkvI]
theorem mkCI_zero (m : Int) (cs : List Value) : mkCI m cs 0 = cs := by simp [mkCI, mkvI]
theorem mkCI_len (m : Int) (cs : List Value) (k : Nat) (h : k ≤ cs.length) : (mkCI m cs k).length = cs.length := by simp [mkCI, mkvI]; omega
theorem mkCI_full (m : Int) (cs : List Value) (k : Nat) (h : cs.length = k) : mkCI m cs k = mkvI m k := by simp [mkCI, ← h]
theorem mkCI_store {m : Int} {cs : List Value} {k : Nat} (h : k < cs.length) : splice (mkCI m cs k) k [.int .i64 (mkI m (k : Int))] = mkCI m cs (k + 1) := by
  unfold splice mkCI
  have h1 : (mkvI m k).length = k := mkvI_len m k
  have h2 : mkvI m (k + 1) = mkvI m k ++ [.int .i64 (mkI m (k : Int))] := by simp [mkvI, List.range_succ]
  rw [List.take_append_of_le_length (by omega), List.take_of_length_le (by omega), List.drop_append, List.drop_of_length_le (by rw [h1]; simp), h1, h2]
  simp [List.drop_drop]
def It.OkI (w : World) (t : It) : Prop := t.cap ≤ 9223372036854775807 ∧ (t.cap = 0 ∨ ∃ b, t.ad = some ⟨b, 0, none⟩ ∧ Rd w b 0 (mkvI t.m t.cap))
theorem it_okI {w : World} {its : List It} {n : Nat} (h : n < its.length) (hk : ∀ t ∈ its, It.OkI w t) : It.OkI w (itAt its n) := by
  have : itAt its n = its[n] := by simp [itAt, List.getD_eq_getElem?_getD, List.getElem?_eq_getElem h]
  rw [this]; exact hk _ (List.getElem_mem h)
theorem Rd.mkatI {w : World} {b k n : Nat} {m : Int} (h : Rd w b 0 (mkvI m n)) (hk : k < n) : w.cell? ⟨b, k, none⟩ = some (.int .i64 (mkI m (k : Int))) := by
  have := h k (.int .i64 (mkI m (k : Int))) (by simp [mkvI, hk])
  simpa using this
theorem it_allI {w : World} : ∀ t ∈ ([] : List It), It.OkI w t := fun t h => by simp at h
theorem it_consI {w : World} {t : It} {its : List It} (h : It.OkI w t) (hs : ∀ t ∈ its, It.OkI w t) : ∀ u ∈ t :: its, It.OkI w u := fun u hu => by
  rcases List.mem_cons.1 hu with rfl | hu
  · exact h
  · exact hs u hu
theorem it_nilI {w : World} (m : Int) : It.OkI w ⟨none, 0, m⟩ := ⟨Nat.zero_le _, Or.inl rfl⟩
theorem it_blkI {w : World} {b cap : Nat} {m : Int} (hc : cap ≤ 9223372036854775807) (h : Rd w b 0 (mkvI m cap)) : It.OkI w ⟨some ⟨b, 0, none⟩, cap, m⟩ := ⟨hc, Or.inr ⟨b, rfl, h⟩⟩
end Sx
