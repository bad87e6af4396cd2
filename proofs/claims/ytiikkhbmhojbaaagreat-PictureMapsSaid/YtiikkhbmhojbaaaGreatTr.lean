/- Three lists of samples changed place by place. No program is named here. -/
import Derived.Test.YtiikkhbmhojbaaaGreatRb
namespace Sx
open Go Go.RowKit
set_option linter.unusedVariables false
/-- A function of three samples that tells three, and makes nothing. -/
def FnS3 (P : Program) (w : World) (fid : FuncId) (caps : Array Value) (xs ys zs : List Int) (f : Int → Int → Int → Int × Int × Int) : Prop :=
  Own P fid ∧ ∀ x ∈ xs, ∀ y ∈ ys, ∀ z ∈ zs, ∀ w', Keep None w w' → Calls P fid (#[.int .u32 x, .int .u32 y, .int .u32 z] ++ caps) w' (Ret w' (fun _ : Unit => True) (fun _ => .tuple #[.int .u32 (f x y z).1, .int .u32 (f x y z).2.1, .int .u32 (f x y z).2.2]) (fun _ => []))
theorem FnS3.later {P : Program} {w w' : World} {fid : FuncId} {caps : Array Value} {xs ys zs : List Int} {f : Int → Int → Int → Int × Int × Int} (h : FnS3 P w fid caps xs ys zs f) (hk : Keep None w w') : FnS3 P w' fid caps xs ys zs f :=
  ⟨h.1, fun x hx y hy z hz w2 h2 => h.2 x hx y hy z hz w2 (hk.trans h2 (fun _ _ h => h))⟩
def trL (g : Nat → Int) (bs : List Int) (k : Nat) : List Int := (List.range bs.length).map fun j => if j < k then g j else bs.getD j 0
theorem trL_len (g : Nat → Int) (bs : List Int) (k : Nat) : (trL g bs k).length = bs.length := by simp [trL]
theorem trL_zero (g : Nat → Int) (bs : List Int) : trL g bs 0 = bs := by
  apply List.ext_getElem
  · simp [trL]
  · intro i h1 h2
    simp [trL, List.getD_eq_getElem?_getD, List.getElem?_eq_getElem h2]
theorem trL_full {g : Nat → Int} {bs : List Int} {n : Nat} (h : bs.length = n) : trL g bs n = (List.range n).map g := by
  subst h
  apply List.ext_getElem
  · simp [trL]
  · intro i h1 h2
    have : i < bs.length := by simpa using h2
    simp [trL, this]
theorem trL_step (g : Nat → Int) (bs : List Int) (k : Nat) (h : k < bs.length) : (trL g bs k).set k (g k) = trL g bs (k + 1) := by
  apply List.ext_getElem
  · simp [trL]
  · intro i h1 h2
    rw [List.getElem_set]
    simp only [trL, List.getElem_map, List.getElem_range]
    by_cases e : k = i
    · subst e; simp
    · rw [if_neg e]
      by_cases e2 : i < k
      · rw [if_pos e2, if_pos (by omega)]
      · rw [if_neg e2, if_neg (by omega)]
theorem trL_at (g : Nat → Int) (bs : List Int) (k : Nat) (sp : List Value) (h : k < bs.length) : ((trL g bs k).map u32 ++ sp)[k]? = some (.int .u32 (bs.getD k 0)) := by
  rw [List.getElem?_append_left (by simp [trL_len]; omega)]
  simp [trL, u32, h]
theorem trL_put (g : Nat → Int) (bs : List Int) (k : Nat) (sp : List Value) (h : k < bs.length) : splice ((trL g bs k).map u32 ++ sp) k [.int .u32 (g k)] = (trL g bs (k + 1)).map u32 ++ sp := by
  rw [set_st _ (by rw [trL_len]; exact h), trL_step _ _ _ h]
/-- What three planes' places become. -/
def trF (f : Int → Int → Int → Int × Int × Int) (ps : List Pn) (k : Nat) : Int × Int × Int := f ((pAt ps 0).xs.getD k 0) ((pAt ps 1).xs.getD k 0) ((pAt ps 2).xs.getD k 0)
def trD (f : Int → Int → Int → Int × Int × Int) (ps : List Pn) (A : Nat) (i : Nat) : Int × Int × List Int :=
  if i = 0 then ((pAt ps 0).W, (pAt ps 0).H, (List.range A).map fun k => (trF f ps k).1)
  else if i = 1 then ((pAt ps 1).W, (pAt ps 1).H, (List.range A).map fun k => (trF f ps k).2.1)
  else if i = 2 then ((pAt ps 2).W, (pAt ps 2).H, (List.range A).map fun k => (trF f ps k).2.2)
  else (pAt ps i).d
theorem Nq.d_eq {q : Nq} {p : Pn} (h : q.d = p.d) : q.W = p.W ∧ q.H = p.H ∧ q.xs = p.xs := by
  unfold Nq.d Pn.d at h; simp only [Prod.mk.injEq] at h; exact h
theorem tr_ds {f : Int → Int → Int → Int × Int × Int} {ps : List Pn} {A n : Nat} {d0 d1 d2 : Int × Int × List Int} {rs : List Nq} (hn : 3 ≤ n) (h0 : d0 = trD f ps A 0) (h1 : d1 = trD f ps A 1) (h2 : d2 = trD f ps A 2) (hr : rs.map Nq.d = (List.range (n - 3)).map fun i => (pAt ps (i + 3)).d) :
    d0 :: d1 :: d2 :: rs.map Nq.d = (List.range n).map (trD f ps A) := by
  obtain ⟨k, rfl⟩ : ∃ k, n = 3 + k := ⟨n - 3, by omega⟩
  rw [List.range_add, List.map_append, hr, show 3 + k - 3 = k by omega, h0, h1, h2]
  simp only [List.map_map]
  show trD f ps A 0 :: trD f ps A 1 :: trD f ps A 2 :: _ = trD f ps A 0 :: trD f ps A 1 :: trD f ps A 2 :: _
  congr 3
  apply List.map_congr_left
  intro i _
  show _ = trD f ps A (3 + i)
  rw [show 3 + i = i + 3 by omega]
  unfold trD
  rw [if_neg (by omega), if_neg (by omega), if_neg (by omega)]
theorem Ac.tri {w0 h0 w1 h1 w2 h2 : Int} {x0 x1 x2 y0 y1 y2 : List Int} {b0 b1 b2 c0 c1 c2 : Nat} {s0 s1 s2 : List Value} {rs : List Nq} {b cap : Nat} {sp : List Value}
    (ha : Ac.Ok ⟨⟨w0, h0, x0, b0, c0, s0⟩ :: ⟨w1, h1, x1, b1, c1, s1⟩ :: ⟨w2, h2, x2, b2, c2, s2⟩ :: rs, b, cap, sp⟩) (hq : ∀ q ∈ (⟨w0, h0, x0, b0, c0, s0⟩ :: ⟨w1, h1, x1, b1, c1, s1⟩ :: ⟨w2, h2, x2, b2, c2, s2⟩ :: rs : List Nq), q.Ok) (e0 : y0.length = x0.length) (e1 : y1.length = x1.length) (e2 : y2.length = x2.length) :
    Ac.Ok ⟨⟨w0, h0, y0, b0, c0, s0⟩ :: ⟨w1, h1, y1, b1, c1, s1⟩ :: ⟨w2, h2, y2, b2, c2, s2⟩ :: rs, b, cap, sp⟩ ∧ ∀ q ∈ (⟨w0, h0, y0, b0, c0, s0⟩ :: ⟨w1, h1, y1, b1, c1, s1⟩ :: ⟨w2, h2, y2, b2, c2, s2⟩ :: rs : List Nq), q.Ok := by
  have like : ∀ {w h : Int} {x y : List Int} {b c : Nat} {s : List Value}, y.length = x.length → Nq.Ok ⟨w, h, x, b, c, s⟩ → Nq.Ok ⟨w, h, y, b, c, s⟩ := fun e h => ⟨by have := h.1; simp only [List.length_append, List.length_map] at this ⊢; rw [e]; exact this, h.2⟩
  refine ⟨Or.inr ?_, fun q h => ?_⟩
  · have h := ha.resolve_left (List.cons_ne_nil _ _)
    simpa [Ac.pl, pcs_len] using h
  · rcases List.mem_cons.1 h with rfl | h
    · exact like e0 (hq _ (List.mem_cons_self ..))
    rcases List.mem_cons.1 h with rfl | h
    · exact like e1 (hq _ (List.mem_cons_of_mem _ (List.mem_cons_self ..)))
    rcases List.mem_cons.1 h with rfl | h
    · exact like e2 (hq _ (List.mem_cons_of_mem _ (List.mem_cons_of_mem _ (List.mem_cons_self ..))))
    · exact hq _ (List.mem_cons_of_mem _ (List.mem_cons_of_mem _ (List.mem_cons_of_mem _ h)))
/-! ### A picture in new memory, read again -/
theorem Ac.pa {w : World} {a : Ac} {Tp Tu : TypeId} (h : ∀ k ∈ a.blks Tp Tu, w.heap[k.b]? = some (.cells k.cs.toArray k.T (0, 0))) (hb : ∀ q ∈ a.qs, q.xs.length ≤ 65536 ∧ ∀ x ∈ q.xs, 0 ≤ x ∧ x < 4294967296) : PnsA w a.ad a.pl := by
  have h1 := Ac.r h (fun q hq => (hb q hq).1)
  refine ⟨h1.1, fun p hp => ?_⟩
  obtain ⟨hl, hn⟩ := h1.2 p hp
  obtain ⟨q, hq, rfl⟩ := List.mem_map.1 hp
  exact ⟨⟨hl.1, (hb q hq).2, by omega, hl.2⟩, hn⟩
theorem Ac.pl_at {a : Ac} {n : Nat} {g : Nat → Int × Int × List Int} (h : a.ds = (List.range n).map g) {i : Nat} (hi : i < n) : (pAt a.pl i).d = g i ∧ (pAt a.pl i).n = (g i).2.2.length := by
  have hl : a.n = n := by rw [← Ac.ds_len, h]; simp
  have h2 : i < a.qs.length := by rw [← hl] at hi; exact hi
  have e : pAt a.pl i = (a.qs[i]).pn := by simp [pAt, Ac.pl, List.getD_eq_getElem?_getD, List.getElem?_eq_getElem h2]
  have e2 : (a.qs[i]).d = g i := by
    have h3 := congrArg (fun l : List (Int × Int × List Int) => l[i]?) h
    simpa [Ac.ds, List.getElem?_map, List.getElem?_eq_getElem h2, hi] using h3
  rw [e]
  refine ⟨e2, ?_⟩
  rw [← e2]; rfl
theorem Ac.okpic {a : Ac} {sp : Int} {W H n : Nat} {g : Nat → Int × Int × List Int} (h : a.ds = (List.range n).map g) (h0 : 0 < n) (h4 : n ≤ 4) (hok : okP W H) (hs : spc sp n = 0) (hg : ∀ i, i < n → (g i).1 = (W : Int) ∧ (g i).2.1 = (H : Int) ∧ (g i).2.2.length = W * H) : OkPic sp a.pl W H := by
  have hl : a.pl.length = n := by rw [Ac.pl_len, ← Ac.ds_len, h]; simp
  refine ⟨hok, by omega, by omega, fun p hp => ?_, by rw [hl]; exact hs⟩
  obtain ⟨i, hi, rfl⟩ := List.getElem_of_mem hp
  have e : pAt a.pl i = a.pl[i] := by simp [pAt, List.getD_eq_getElem?_getD, List.getElem?_eq_getElem hi]
  obtain ⟨e1, e2⟩ := Ac.pl_at h (show i < n by omega)
  rw [← e]
  obtain ⟨f1, f2, f3⟩ := hg i (by omega)
  unfold Pn.d at e1
  rw [← e1] at f1 f2
  exact ⟨f1, f2, by rw [e2, f3]⟩
/-! ### Pictures of one place -/
def onesD (ls : List Int) : List (Int × Int × List Int) := (List.range ls.length).map fun i => (1, 1, [ls.getD i 0])
theorem ones_len {a : Ac} {ls : List Int} (h : a.ds = onesD ls) : a.n = ls.length := by rw [← Ac.ds_len, h]; simp [onesD]
theorem ones_at {a : Ac} {ls : List Int} (h : a.ds = onesD ls) {i : Nat} (hi : i < ls.length) : (pAt a.pl i).W = 1 ∧ (pAt a.pl i).H = 1 ∧ (pAt a.pl i).xs = [ls.getD i 0] := by
  have := (Ac.pl_at h hi).1
  unfold Pn.d at this; simp only [Prod.mk.injEq] at this; exact this
theorem ones_ok {a : Ac} {ls : List Int} {sp : Int} (h : a.ds = onesD ls) (h0 : 0 < ls.length) (h4 : ls.length ≤ 4) (hs : spc sp ls.length = 0) : OkPic sp a.pl 1 1 :=
  Ac.okpic h h0 h4 ⟨by omega, by omega, by omega, by omega, by omega⟩ hs fun i hi => ⟨rfl, rfl, rfl⟩
theorem ones_q {a : Ac} {ls : List Int} (h : a.ds = onesD ls) : ∀ q ∈ a.qs, ∃ x ∈ ls, q.xs = [x] := fun q hq => by
  have h2 : q.d ∈ a.ds := List.mem_map.2 ⟨q, hq, rfl⟩
  rw [h] at h2
  obtain ⟨i, hi, e⟩ := List.mem_map.1 h2
  exact ⟨ls.getD i 0, getD_mem (by simpa using hi), (congrArg (fun d => d.2.2) e).symm⟩
theorem ones_x {a : Ac} {ls : List Int} (h : a.ds = onesD ls) : ∀ q ∈ a.qs, q.xs.length ≤ 65536 := fun q hq => by
  obtain ⟨x, _, e⟩ := ones_q h q hq
  rw [e]; simp
theorem ones_pa {w : World} {a : Ac} {ls : List Int} {Tp Tu : TypeId} (h : a.ds = onesD ls) (hl : ∀ x ∈ ls, 0 ≤ x ∧ x < 4294967296) (hh : ∀ k ∈ a.blks Tp Tu, w.heap[k.b]? = some (.cells k.cs.toArray k.T (0, 0))) : PnsA w a.ad a.pl :=
  Ac.pa hh fun q hq => ⟨ones_x h q hq, fun x hx => by
    obtain ⟨y, hy, e⟩ := ones_q h q hq
    rw [e] at hx; rw [List.mem_singleton.1 hx]; exact hl y hy⟩
theorem ones_mem {a : Ac} {ls : List Int} (h : a.ds = onesD ls) : ∀ p ∈ a.pl, ∀ x ∈ p.xs, x ∈ ls := fun p hp x hx => by
  obtain ⟨q, hq, rfl⟩ := List.mem_map.1 hp
  obtain ⟨y, hy, e⟩ := ones_q h q hq
  have hx' : x ∈ q.xs := hx
  rw [e] at hx'; rw [List.mem_singleton.1 hx']; exact hy
theorem onesD_map (ls : List Int) (F : Int → Int) (n : Nat) (g : Nat → Int × Int × List Int) (hn : n = ls.length) (hg : ∀ i, i < ls.length → g i = (1, 1, [F (ls.getD i 0)])) : (List.range n).map g = onesD (ls.map F) := by
  subst hn
  unfold onesD
  rw [List.length_map]
  apply List.map_congr_left
  intro i hi
  have hi' : i < ls.length := by simpa using hi
  rw [hg i hi']
  simp [List.getD_eq_getElem?_getD, List.getElem?_eq_getElem hi']
theorem ones_map {a : Ac} {ls : List Int} (h : a.ds = onesD ls) (F : Int → Int) : (List.range ls.length).map (mpG F (-1) a.pl) = onesD (ls.map F) :=
  onesD_map ls F _ _ rfl fun i hi => by
    obtain ⟨e1, e2, e3⟩ := ones_at h hi
    unfold mpG; rw [if_pos (Or.inl rfl), e1, e2, e3]; rfl
theorem ones_two {a : Ac} {ls : List Int} (h : a.ds = onesD ls) (f : Int → Int → Int) : (List.range ls.length).map (twG f a.pl a.pl) = onesD (ls.map fun x => f x x) :=
  onesD_map ls (fun x => f x x) _ _ rfl fun i hi => by
    obtain ⟨e1, e2, e3⟩ := ones_at h hi
    unfold twG zpX; rw [e1, e2, e3]; rfl
theorem ones_tri {a : Ac} {x y z : Int} (h : a.ds = onesD [x, y, z]) (f : Int → Int → Int → Int × Int × Int) : (List.range 3).map (trD f a.pl 1) = onesD [(f x y z).1, (f x y z).2.1, (f x y z).2.2] := by
  obtain ⟨a1, a2, a3⟩ := ones_at h (show 0 < [x, y, z].length by simp)
  obtain ⟨b1, b2, b3⟩ := ones_at h (show 1 < [x, y, z].length by simp)
  obtain ⟨c1, c2, c3⟩ := ones_at h (show 2 < [x, y, z].length by simp)
  have e : ∀ k, trF f a.pl k = f ([x].getD k 0) ([y].getD k 0) ([z].getD k 0) := fun k => by unfold trF; rw [a3, b3, c3]; rfl
  show [trD f a.pl 1 0, trD f a.pl 1 1, trD f a.pl 1 2] = [(1, 1, [(f x y z).1]), (1, 1, [(f x y z).2.1]), (1, 1, [(f x y z).2.2])]
  unfold trD
  rw [if_pos rfl, if_neg (by decide), if_pos rfl, if_neg (by decide), if_neg (by decide), if_pos rfl, a1, a2, b1, b2, c1, c2]
  simp only [e]
  rfl
theorem ones_eq {a b : Ac} {ls ms : List Int} (h : a.ds = onesD ls) (h2 : b.ds = onesD ms) (e : ls = ms) : a.pl.map Pn.d = b.pl.map Pn.d := by rw [Ac.pl_d, Ac.pl_d, h, h2, e]
end Sx
