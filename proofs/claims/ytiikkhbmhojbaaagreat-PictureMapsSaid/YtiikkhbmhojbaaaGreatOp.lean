/- A picture that came in: its planes, wherever they lie. No program is named here. -/
import Derived.Test.YtiikkhbmhojbaaaGreatRb
import Derived.Deep.Slices
namespace Sx
open Go Go.RowKit Go.Joins Go.Deep Go.ChangeShapes Go.WideShapes Go.ChangeAt
set_option linter.unusedVariables false
theorem open_planeC {D : Type} {enc : TypeId × Value → D} {P : Program} {w : World} {base fuel : Nat} {t e : TypeId} {f0 f1 f2 : Field} {cs : List Value} {x : DataW D × List MemPlace}
    (hs : P.underlying t = some (.struct #[f0, f1, f2])) (hone : oneCellFields P #[f0, f1, f2] = true)
    (h0 : P.underlying f0.type = some (.int .i64)) (h1 : P.underlying f1.type = some (.int .i64)) (h2 : P.underlying f2.type = some (.slice e)) (he : P.underlying e = some (.int .u32)) (hce : P.cellsOf e = 1) (hby : P.bytesOf e = 4)
    (hlen3 : cs.length = 3) (h : DataW.trod enc P w base (fun _ => true) true fuel t cs = some x) (hB : ∀ m ∈ x.1.weights P t, m ≤ reachBytes) :
    ∃ p : Pn, cs = p.cs ∧ p.Ok w := by
  match cs, hlen3 with
  | [c0, c1, c2], _ =>
  obtain ⟨y0, y1, y2, n, hx0, _, t0, t1, t2⟩ := trod_struct3 hs h
  obtain ⟨o0, k0⟩ := hone_of hone 0 f0 rfl
  obtain ⟨o1, k1⟩ := hone_of hone 1 f1 rfl
  obtain ⟨o2, k2⟩ := hone_of hone 2 f2 rfl
  have hy0 : DataW.trod enc P w base (fun _ => true) true n f0.type [c0] = some y0 := by simpa [o0, k0] using t0
  have hy1 : DataW.trod enc P w base (fun _ => true) true n f1.type [c1] = some y1 := by simpa [o1, k1] using t1
  have hy2 : DataW.trod enc P w base (fun _ => true) true n f2.type [c2] = some y2 := by simpa [o2, k2] using t2
  obtain ⟨W, e0, rfl, wW⟩ := DataW.trod_int h0 hy0
  obtain ⟨H, e1, rfl, wH⟩ := DataW.trod_int h1 hy1
  simp at e0 e1
  subst e0 e1
  subst hx0
  rcases open_ints h2 he hce hy2 with ⟨hcs, hx⟩ | ⟨a, len, cap, zs, hcs, _, hl, hm, hz, hx, hcell, hwz⟩
  · simp at hcs; subst hcs
    exact ⟨⟨W, H, none, 0, 0, []⟩, rfl, ⟨rfl, by simp, Nat.zero_le _, Or.inl rfl⟩, Nat.zero_le _⟩
  · simp at hcs; subst hcs
    have hz' : zs.length = cap := by simpa using hz
    have hlen : len ≤ zs.length := by omega
    have hbn : len ≤ 35184372087808 := by
      have hw := hB (((lits IntKind.u32 (zs.take len) : List (DataW D)).length + (lits IntKind.u32 (zs.drop len) : List (DataW D)).length) * P.bytesOf e) (by
        rw [hx]
        simp [DataW.weights, DataW.weightsEach, hs, h2])
      have hr : reachBytes = 140737488351232 := rfl
      simp [lits, hby, hr] at hw
      omega
    refine ⟨⟨W, H, some a, len, cap, zs.take len⟩, rfl, ⟨by simp [hlen], fun x hx => wf_u32 (hwz x (List.mem_of_mem_take hx)), by unfold maxLen at hm; show len ≤ _; omega, ?_⟩, hbn⟩
    by_cases hn : len = 0
    · exact Or.inl hn
    · right
      have hc0 := hcell 0 (by omega)
      obtain ⟨b, o, by_⟩ := a
      have hb : by_ = none := by
        cases by_ with
        | none => rfl
        | some q =>
          exfalso
          simp [Addr.add, World.cell?] at hc0
          revert hc0
          split <;> simp
      subst hb
      refine ⟨b, o, rfl, fun j v hj => ?_⟩
      rw [List.getElem?_map, List.getElem?_take] at hj
      split at hj
      · have := hcell j (by omega)
        rw [addr_add] at this
        rw [this, ← hj]
        rw [List.getElem?_eq_getElem (by omega : j < zs.length), List.getD_eq_getElem?_getD, List.getElem?_eq_getElem (by omega : j < zs.length)]; rfl
      · simp at hj
instance : Inhabited Pn := ⟨zPn⟩
theorem weightsAll_mem {D : Type} {P : Program} {t : TypeId} : ∀ {l : List (DataW D)} {d : DataW D} {m : Nat}, d ∈ l → m ∈ d.weights P t → m ∈ DataW.weightsAll P t l
  | [], d, m, h, _ => by cases h
  | x :: r, d, m, h, hm => by
    unfold DataW.weightsAll
    rcases List.mem_cons.1 h with rfl | h
    · exact List.mem_append_left _ hm
    · exact List.mem_append_right _ (weightsAll_mem h hm)
theorem pcs_fn (f : Nat → Pn) (n : Nat) : ∀ j v, (pcs ((List.range n).map f))[j]? = some v → j / 3 < n ∧ (f (j / 3)).cs[j % 3]? = some v := fun j v h => by
  have hj := (List.getElem?_eq_some_iff.1 h).1
  rw [pcs_len, List.length_map, List.length_range] at hj
  have h1 : j / 3 < n := by omega
  refine ⟨h1, ?_⟩
  have e := pcs_at (ps := (List.range n).map f) (i := j / 3) (j := j % 3) (by simpa using h1) (Nat.mod_lt _ (by decide))
  rw [show j / 3 * 3 + j % 3 = j by omega, h] at e
  rw [e]
  simp [pAt, List.getD_eq_getElem?_getD, h1]
theorem open_picture {D : Type} {enc : TypeId × Value → D} {P : Program} {w : World} {base : Nat} {r : Reach} {b0 : Nat} {tp t e : TypeId} {g0 g1 f0 f1 f2 : Field} {v : Value} {d : DataW D} {p : List MemPlace}
    (hsp : P.underlying tp = some (.struct #[g0, g1])) (honep : oneCellFields P #[g0, g1] = true) (hCp : P.cellsOf tp = 2) (k0 : P.underlying g0.type = some (.int .i64)) (k1 : P.underlying g1.type = some (.slice t)) (hbt : P.bytesOf t = 40)
    (hs : P.underlying t = some (.struct #[f0, f1, f2])) (hone : oneCellFields P #[f0, f1, f2] = true) (hC : P.cellsOf t = 3)
    (h0 : P.underlying f0.type = some (.int .i64)) (h1 : P.underlying f1.type = some (.int .i64)) (h2 : P.underlying f2.type = some (.slice e)) (he : P.underlying e = some (.int .u32)) (hce : P.cellsOf e = 1) (hby : P.bytesOf e = 4)
    (hv : Value.okWide P w r b0 tp v) (h : DataW.Trod enc P w base (fun _ => true) true tp v d p) (hB : ∀ m ∈ d.weights P tp, m ≤ reachBytes) :
    ∃ (sp : Int) (ad : Option Addr) (n cap : Nat) (ps : List Pn), v = .agg #[.int .i64 sp, .slice ad n cap] ∧ (-9223372036854775808 ≤ sp ∧ sp ≤ 9223372036854775807) ∧ PnsA w ad ps ∧ n = ps.length ∧ n ≤ 3600000000000 := by
  obtain ⟨c0, c1, y0, y1, m, rfl, rfl, rfl, hy0, hy1⟩ := open_agg2 hsp honep hCp hv h
  obtain ⟨sp, e0, rfl, wS⟩ := DataW.trod_int k0 hy0
  simp at e0
  subst e0
  rcases open_slice k1 hy1 with ⟨hcs, hx⟩ | ⟨a, len, cap, m', n', D', Pl, hcs, _, hl, hm, hmm, hx, hel⟩
  · simp at hcs; subst hcs
    exact ⟨sp, none, 0, 0, [], rfl, wf_i64 wS, ⟨Or.inl rfl, fun p hp => by cases hp⟩, rfl, Nat.zero_le _⟩
  · simp at hcs; subst hcs
    have hm' : m' = cap := by simpa using hmm
    subst hm'
    have hwE : ∀ i, i < len → ∀ x ∈ (D' i).weights P t, x ≤ reachBytes := fun i hi x hx2 => by
      refine hB x ?_
      rw [hx]
      simp only [DataW.weights, DataW.weightsEach, hsp, k1, List.map_cons, List.map_nil, List.append_nil]
      refine List.mem_append_right _ ?_
      refine List.mem_cons_of_mem _ (List.mem_append_left _ ?_)
      exact weightsAll_mem (List.mem_map.2 ⟨i, List.mem_range.2 hi, rfl⟩) hx2
    have hbn : len ≤ 3600000000000 := by
      have hw := hB (((List.range len).map D').length * 40 + ((List.range (m' - len)).map fun j => D' (len + j)).length * 40) (by
        rw [hx]
        simp [DataW.weights, DataW.weightsEach, hsp, k1, hbt, Nat.add_mul])
      have hr : reachBytes = 140737488351232 := rfl
      simp [hr] at hw
      omega
    obtain ⟨f, hf⟩ := choose_lt (α := Pn) (n := len) (p := fun i q => q.Ok w ∧ ∀ j v, q.cs[j]? = some v → w.cell? (a.add (i * 3 + j)) = some v) (fun i hi => by
      obtain ⟨cs', c1', c2'⟩ := hel i (by omega)
      rw [hC] at c1'
      obtain ⟨_, hl3, hcell⟩ := World.cells?_some c1'
      obtain ⟨q, rfl, hq⟩ := open_planeC hs hone h0 h1 h2 he hce hby hl3 c2' (hwE i hi)
      refine ⟨q, hq, fun j v hj => ?_⟩
      have hj3 : j < 3 := by have := (List.getElem?_eq_some_iff.1 hj).1; simpa [Pn.cs] using this
      rw [← add_add, hcell j hj3, hj])
    refine ⟨sp, some a, len, m', (List.range len).map f, rfl, wf_i64 wS, ⟨?_, fun q hq => ?_⟩, by simp, hbn⟩
    · by_cases hn : len = 0
      · left; subst hn; rfl
      · right
        have hc0 := (hf 0 (by omega)).2 0 _ rfl
        obtain ⟨b, o, by_⟩ := a
        have hb : by_ = none := by
          cases by_ with
          | none => rfl
          | some q =>
            exfalso
            simp [Addr.add, World.cell?] at hc0
            revert hc0
            split <;> simp
        subst hb
        refine ⟨b, o, rfl, fun j v hj => ?_⟩
        obtain ⟨g1', g2'⟩ := pcs_fn f len j v hj
        have := (hf (j / 3) g1').2 (j % 3) v g2'
        rw [show j / 3 * 3 + j % 3 = j by omega, addr_add] at this
        exact this
    · obtain ⟨i, hi, rfl⟩ := List.mem_map.1 hq
      exact (hf i (List.mem_range.1 hi)).1
end Sx
