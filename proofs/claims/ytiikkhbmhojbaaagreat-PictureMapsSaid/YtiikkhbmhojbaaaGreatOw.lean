/- A plane that came in, opened: its numbers, its list as the heap has it. No program is named here. -/
import Derived.Test.YtiikkhbmhojbaaaGreatPl
import Derived.ChangeSlices
import Derived.Lib.SmallJoins
import Derived.Carry
import Derived.SizedLaws
namespace Sx
open Go Go.RowKit Go.Joins Go.Deep Go.ChangeShapes Go.WideShapes Go.ChangeAt
set_option linter.unusedVariables false

/-- A list of samples where a slice says: none, or cells that can be read. -/
def Lst (w : World) (ad : Option Addr) (n : Nat) (xs : List Int) : Prop :=
  xs.length = n ∧ (∀ x ∈ xs, 0 ≤ x ∧ x < 4294967296) ∧ n ≤ 9223372036854775807 ∧ (n = 0 ∨ ∃ b o, ad = some ⟨b, o, none⟩ ∧ Rd w b o (xs.map u32))
theorem Lst.later {w w' : World} {ad : Option Addr} {n : Nat} {xs : List Int} (h : Lst w ad n xs) (hk : Keep None w w') : Lst w' ad n xs :=
  ⟨h.1, h.2.1, h.2.2.1, h.2.2.2.imp id fun ⟨b, o, e, hr⟩ => ⟨b, o, e, hr.later hk⟩⟩
theorem rd_nil (w : World) (b o : Nat) : Rd w b o [] := fun j v h => by simp at h
theorem open_plane {H : Type} {enc : TypeId × Value → H} {P : Program} {w : World} {base : Nat} {spare : Nat → Bool} {held : Bool} {r : Reach} {b0 : Nat} {t e : TypeId} {f0 f1 f2 : Field} {v : Value} {d : DataW H} {p : List MemPlace}
    (hs : P.underlying t = some (.struct #[f0, f1, f2])) (hone : oneCellFields P #[f0, f1, f2] = true) (hC : P.cellsOf t = 3)
    (h0 : P.underlying f0.type = some (.int .i64)) (h1 : P.underlying f1.type = some (.int .i64)) (h2 : P.underlying f2.type = some (.slice e)) (he : P.underlying e = some (.int .u32)) (hce : P.cellsOf e = 1)
    (hv : Value.okWide P w r b0 t v) (h : DataW.Trod enc P w base spare held t v d p) :
    ∃ (W H : Int) (ad : Option Addr) (n cap : Nat) (xs : List Int), v = .agg #[.int .i64 W, .int .i64 H, .slice ad n cap] ∧ (-9223372036854775808 ≤ W ∧ W ≤ 9223372036854775807) ∧ (-9223372036854775808 ≤ H ∧ H ≤ 9223372036854775807) ∧ Lst w ad n xs := by
  obtain ⟨c0, c1, c2, y0, y1, y2, m, rfl, rfl, rfl, hy0, hy1, hy2⟩ := open_agg3 hs hone hC hv h
  obtain ⟨W, e0, rfl, wW⟩ := DataW.trod_int h0 hy0
  obtain ⟨H, e1, rfl, wH⟩ := DataW.trod_int h1 hy1
  simp at e0 e1
  subst e0 e1
  rcases open_ints h2 he hce hy2 with ⟨hcs, hx⟩ | ⟨a, len, cap, zs, hcs, _, hl, hm, hz, hx, hcell, hwz⟩
  · simp at hcs; subst hcs
    exact ⟨W, H, none, 0, 0, [], rfl, wf_i64 wW, wf_i64 wH, rfl, by simp, by decide, Or.inl rfl⟩
  · simp at hcs; subst hcs
    have hlen : len ≤ zs.length := by rw [hz]; split <;> omega
    refine ⟨W, H, some a, len, cap, zs.take len, rfl, wf_i64 wW, wf_i64 wH, by simp [hlen], fun x hx => wf_u32 (hwz x (List.mem_of_mem_take hx)), by unfold maxLen at hm; omega, ?_⟩
    by_cases hn : len = 0
    · exact Or.inl hn
    · right
      have hc0 := hcell 0 (by omega)
      obtain ⟨b, o, by_⟩ := a
      have hb : by_ = none := by
        cases by_ with
        | none => rfl
        | some q =>
          exfalso
          simp [Addr.add, World.cell?] at hc0
          revert hc0
          split <;> simp
      subst hb
      refine ⟨b, o, rfl, fun j v hj => ?_⟩
      rw [List.getElem?_map, List.getElem?_take] at hj
      split at hj
      · have := hcell j (by omega)
        rw [addr_add] at this
        rw [this, ← hj]
        rw [List.getElem?_eq_getElem (by omega : j < zs.length), List.getD_eq_getElem?_getD, List.getElem?_eq_getElem (by omega : j < zs.length)]; rfl
      · simp at hj
theorem open_rect {H : Type} {enc : TypeId × Value → H} {P : Program} {w : World} {base : Nat} {spare : Nat → Bool} {held : Bool} {r : Reach} {b0 : Nat} {t : TypeId} {f0 f1 f2 f3 : Field} {v : Value} {d : DataW H} {p : List MemPlace}
    (hs : P.underlying t = some (.struct #[f0, f1, f2, f3])) (hone : oneCellFields P #[f0, f1, f2, f3] = true) (hC : P.cellsOf t = 4)
    (h0 : P.underlying f0.type = some (.int .i64)) (h1 : P.underlying f1.type = some (.int .i64)) (h2 : P.underlying f2.type = some (.int .i64)) (h3 : P.underlying f3.type = some (.int .i64))
    (hv : Value.okWide P w r b0 t v) (h : DataW.Trod enc P w base spare held t v d p) :
    ∃ a b c e : Int, v = .agg #[.int .i64 a, .int .i64 b, .int .i64 c, .int .i64 e] ∧ (-9223372036854775808 ≤ a ∧ a ≤ 9223372036854775807) ∧ (-9223372036854775808 ≤ b ∧ b ≤ 9223372036854775807) ∧ (-9223372036854775808 ≤ c ∧ c ≤ 9223372036854775807) ∧ (-9223372036854775808 ≤ e ∧ e ≤ 9223372036854775807) := by
  obtain ⟨c0, c1, c2, c3, y0, y1, y2, y3, m, rfl, rfl, rfl, hy0, hy1, hy2, hy3⟩ := open_agg4 hs hone hC hv h
  obtain ⟨a, e0, rfl, wa⟩ := DataW.trod_int h0 hy0
  obtain ⟨b, e1, rfl, wb⟩ := DataW.trod_int h1 hy1
  obtain ⟨c, e2, rfl, wc⟩ := DataW.trod_int h2 hy2
  obtain ⟨e, e3, rfl, we⟩ := DataW.trod_int h3 hy3
  simp at e0 e1 e2 e3
  subst e0 e1 e2 e3
  exact ⟨a, b, c, e, rfl, wf_i64 wa, wf_i64 wb, wf_i64 wc, wf_i64 we⟩
/-- A plane that came in, and how much room its list takes at most. -/
theorem open_planeW {D : Type} {enc : TypeId × Value → D} {P : Program} {w : World} {base : Nat} {r : Reach} {b0 : Nat} {t e : TypeId} {f0 f1 f2 : Field} {v : Value} {d : DataW D} {p : List MemPlace}
    (hs : P.underlying t = some (.struct #[f0, f1, f2])) (hone : oneCellFields P #[f0, f1, f2] = true) (hC : P.cellsOf t = 3)
    (h0 : P.underlying f0.type = some (.int .i64)) (h1 : P.underlying f1.type = some (.int .i64)) (h2 : P.underlying f2.type = some (.slice e)) (he : P.underlying e = some (.int .u32)) (hce : P.cellsOf e = 1) (hby : P.bytesOf e = 4)
    (hv : Value.okWide P w r b0 t v) (h : DataW.Trod enc P w base (fun _ => true) true t v d p) (hB : ∀ m ∈ d.weights P t, m ≤ reachBytes) :
    ∃ (W H : Int) (ad : Option Addr) (n cap : Nat) (xs : List Int), v = .agg #[.int .i64 W, .int .i64 H, .slice ad n cap] ∧ (-9223372036854775808 ≤ W ∧ W ≤ 9223372036854775807) ∧ (-9223372036854775808 ≤ H ∧ H ≤ 9223372036854775807) ∧ Lst w ad n xs ∧ n ≤ 35184372087808 := by
  obtain ⟨c0, c1, c2, y0, y1, y2, m, rfl, rfl, rfl, hy0, hy1, hy2⟩ := open_agg3 hs hone hC hv h
  obtain ⟨W, e0, rfl, wW⟩ := DataW.trod_int h0 hy0
  obtain ⟨H, e1, rfl, wH⟩ := DataW.trod_int h1 hy1
  simp at e0 e1
  subst e0 e1
  rcases open_ints h2 he hce hy2 with ⟨hcs, hx⟩ | ⟨a, len, cap, zs, hcs, _, hl, hm, hz, hx, hcell, hwz⟩
  · simp at hcs; subst hcs
    exact ⟨W, H, none, 0, 0, [], rfl, wf_i64 wW, wf_i64 wH, ⟨rfl, by simp, by decide, Or.inl rfl⟩, by decide⟩
  · simp at hcs; subst hcs
    have hz' : zs.length = cap := by simpa using hz
    have hlen : len ≤ zs.length := by omega
    have hbn : len ≤ 35184372087808 := by
      have hw := hB (((lits IntKind.u32 (zs.take len) : List (DataW D)).length + (lits IntKind.u32 (zs.drop len) : List (DataW D)).length) * P.bytesOf e) (by
        rw [hx]
        simp [DataW.weights, DataW.weightsEach, hs, h2])
      have hr : reachBytes = 140737488351232 := rfl
      simp [lits, hby, hr] at hw
      omega
    refine ⟨W, H, some a, len, cap, zs.take len, rfl, wf_i64 wW, wf_i64 wH, ⟨by simp [hlen], fun x hx => wf_u32 (hwz x (List.mem_of_mem_take hx)), by unfold maxLen at hm; omega, ?_⟩, hbn⟩
    by_cases hn : len = 0
    · exact Or.inl hn
    · right
      have hc0 := hcell 0 (by omega)
      obtain ⟨b, o, by_⟩ := a
      have hb : by_ = none := by
        cases by_ with
        | none => rfl
        | some q =>
          exfalso
          simp [Addr.add, World.cell?] at hc0
          revert hc0
          split <;> simp
      subst hb
      refine ⟨b, o, rfl, fun j v hj => ?_⟩
      rw [List.getElem?_map, List.getElem?_take] at hj
      split at hj
      · have := hcell j (by omega)
        rw [addr_add] at this
        rw [this, ← hj]
        rw [List.getElem?_eq_getElem (by omega : j < zs.length), List.getD_eq_getElem?_getD, List.getElem?_eq_getElem (by omega : j < zs.length)]; rfl
      · simp at hj
/-- One argument's weights, out of all. -/
theorem sized_arg {H : Type} {P : Program} {ts : List TypeId} {ds : List (DataW H)} (h : (DataW.weightsEach P ts ds).all (· ≤ reachBytes) = true) {j : Nat} {t : TypeId} {d : DataW H} (ht : ts[j]? = some t) (hd : ds[j]? = some d) : ∀ m ∈ d.weights P t, m ≤ reachBytes := fun m hm => by
  simpa using List.all_eq_true.1 h m (DataW.weights_mem_each ht hd m hm)
end Sx
