/- Planes in lists, and lists of planes that grow. No program is named here. -/
import Derived.Test.YtiikkhbmhojbaaaGreatDc
namespace Sx
open Go Go.RowKit
set_option linter.unusedVariables false
/-! ### Planes as they lie -/
structure Pn where
  W : Int
  H : Int
  ad : Option Addr
  n : Nat
  cap : Nat
  xs : List Int
def Pn.cs (p : Pn) : List Value := [.int .i64 p.W, .int .i64 p.H, .slice p.ad p.n p.cap]
def Pn.v (p : Pn) : Value := .agg #[.int .i64 p.W, .int .i64 p.H, .slice p.ad p.n p.cap]
def Pn.d (p : Pn) : Int × Int × List Int := (p.W, p.H, p.xs)
def pcs : List Pn → List Value
  | [] => []
  | p :: r => p.cs ++ pcs r
def pAt (ps : List Pn) (i : Nat) : Pn := ps.getD i ⟨0, 0, none, 0, 0, []⟩
theorem pcs_len : ∀ ps : List Pn, (pcs ps).length = ps.length * 3
  | [] => rfl
  | p :: r => by simp [pcs, Pn.cs, pcs_len r]; omega
theorem pcs_app : ∀ ps qs : List Pn, pcs (ps ++ qs) = pcs ps ++ pcs qs
  | [], _ => rfl
  | p :: r, qs => by simp [pcs, pcs_app r qs]
theorem pcs_at : ∀ {ps : List Pn} {i j : Nat}, i < ps.length → j < 3 → (pcs ps)[i * 3 + j]? = (pAt ps i).cs[j]?
  | [], i, j, h, _ => absurd h (Nat.not_lt_zero _)
  | p :: r, 0, j, _, hj => by
    rw [Nat.zero_mul, Nat.zero_add, pcs, List.getElem?_append_left (by simpa [Pn.cs] using hj)]; rfl
  | p :: r, i + 1, j, h, hj => by
    have := pcs_at (ps := r) (i := i) (j := j) (by simpa using h) hj
    rw [pcs, List.getElem?_append_right (by simp [Pn.cs]; omega)]
    rw [show (i + 1) * 3 + j - p.cs.length = i * 3 + j by simp [Pn.cs]; omega, this]; rfl
theorem pAt_mem {ps : List Pn} {i : Nat} (h : i < ps.length) : pAt ps i ∈ ps := by
  have : pAt ps i = ps[i] := by simp [pAt, List.getD_eq_getElem?_getD, List.getElem?_eq_getElem h]
  rw [this]; exact List.getElem_mem h
def Pn.Ok (w : World) (p : Pn) : Prop := Lst w p.ad p.n p.xs ∧ p.n ≤ 35184372087808
theorem Pn.Ok.later {w w' : World} {p : Pn} (h : p.Ok w) (hk : Keep None w w') : p.Ok w' := ⟨h.1.later hk, h.2⟩
/-- A list of planes that can be read. -/
structure Pns (w : World) (b o : Nat) (ps : List Pn) : Prop where
  rd : Rd w b o (pcs ps)
  ok : ∀ p ∈ ps, p.Ok w
theorem Pns.later {w w' : World} {b o : Nat} {ps : List Pn} (h : Pns w b o ps) (hk : Keep None w w') : Pns w' b o ps := ⟨h.rd.later hk, fun p hp => (h.ok p hp).later hk⟩
theorem Pns.cell {w : World} {b o i j : Nat} {ps : List Pn} {v : Value} (h : Pns w b o ps) (hi : i < ps.length) (hj : j < 3) (hv : (pAt ps i).cs[j]? = some v) : w.cell? ⟨b, o + i * 3 + j, none⟩ = some v := by
  have := h.rd (i * 3 + j) v (by rw [pcs_at hi hj]; exact hv)
  rwa [← Nat.add_assoc] at this
theorem Pns.ld {w : World} {b o i : Nat} {ps : List Pn} (h : Pns w b o ps) (hi : i < ps.length) : ∀ j v, (pAt ps i).cs[j]? = some v → w.cell? ⟨b, o + i * 3 + j, none⟩ = some v := fun j v hv => by
  have hj : j < 3 := by have := (List.getElem?_eq_some_iff.1 hv).1; simpa [Pn.cs] using this
  exact h.cell hi hj hv
/-- A list of planes wherever it stands; or none. -/
def PnsA (w : World) (ad : Option Addr) (ps : List Pn) : Prop := (ps = [] ∨ ∃ b o, ad = some ⟨b, o, none⟩ ∧ Rd w b o (pcs ps)) ∧ ∀ p ∈ ps, p.Ok w
theorem PnsA.later {w w' : World} {ad : Option Addr} {ps : List Pn} (h : PnsA w ad ps) (hk : Keep None w w') : PnsA w' ad ps := ⟨h.1.imp id fun ⟨b, o, e, hr⟩ => ⟨b, o, e, hr.later hk⟩, fun p hp => (h.2 p hp).later hk⟩
theorem PnsA.at {w : World} {ad : Option Addr} {ps : List Pn} (h : PnsA w ad ps) (h0 : 0 < ps.length) : ∃ b o, ad = some ⟨b, o, none⟩ ∧ Pns w b o ps := by
  rcases h.1 with e | ⟨b, o, e, hr⟩
  · subst e; simp at h0
  · exact ⟨b, o, e, hr, h.2⟩
theorem Pns.a {w : World} {b o : Nat} {ps : List Pn} (h : Pns w b o ps) : PnsA w (some ⟨b, o, none⟩) ps := ⟨Or.inr ⟨b, o, rfl, h.rd⟩, h.ok⟩
/-! ### What is wrong with a picture -/
def Pn.chk (p : Pn) : Int := Sx.chk p.W p.H p.n
def chkL : List Pn → Int
  | [] => 0
  | p :: r => if p.chk = 0 then chkL r else p.chk
theorem chkL_at : ∀ {ps : List Pn} {i : Nat}, i < ps.length → (∀ j, j < i → (pAt ps j).chk = 0) → (pAt ps i).chk ≠ 0 → chkL ps = (pAt ps i).chk
  | [], i, h, _, _ => absurd h (Nat.not_lt_zero _)
  | p :: r, 0, _, _, h1 => by
    have : p.chk ≠ 0 := h1
    unfold chkL; rw [if_neg this]; rfl
  | p :: r, i + 1, h, h0, h1 => by
    have : p.chk = 0 := h0 0 (by omega)
    unfold chkL; rw [if_pos this]
    exact chkL_at (ps := r) (by simpa using h) (fun j hj => h0 (j + 1) (by omega)) h1
theorem chkL_zero : ∀ {ps : List Pn}, (∀ j, j < ps.length → (pAt ps j).chk = 0) → chkL ps = 0
  | [], _ => rfl
  | p :: r, h => by
    have : p.chk = 0 := h 0 (by simp)
    unfold chkL; rw [if_pos this]
    exact chkL_zero fun j hj => h (j + 1) (by simpa using hj)
theorem chkL_all : ∀ {ps : List Pn}, chkL ps = 0 → ∀ p ∈ ps, p.chk = 0
  | [], _, p, h => by simp at h
  | q :: r, h, p, hp => by
    unfold chkL at h
    by_cases hq : q.chk = 0
    · rw [if_pos hq] at h
      rcases List.mem_cons.1 hp with rfl | hp
      · exact hq
      · exact chkL_all h p hp
    · rw [if_neg hq] at h; exact absurd h hq
/-- Are all of one size? -/
def alike (ps : List Pn) : Bool := ps.all fun p => decide (p.W = (pAt ps 0).W ∧ p.H = (pAt ps 0).H)
theorem alike_not {ps : List Pn} {i : Nat} (h : i < ps.length) (hn : (pAt ps i).W ≠ (pAt ps 0).W ∨ (pAt ps i).H ≠ (pAt ps 0).H) : alike ps = false := by
  cases e : alike ps with
  | false => rfl
  | true =>
    have := List.all_eq_true.1 e _ (pAt_mem h)
    simp at this; omega
theorem alike_of {ps : List Pn} (h : ∀ j, j < ps.length → (pAt ps j).W = (pAt ps 0).W ∧ (pAt ps j).H = (pAt ps 0).H) : alike ps = true := by
  refine List.all_eq_true.2 fun p hp => ?_
  obtain ⟨j, hj, e⟩ := List.getElem_of_mem hp
  have e2 : pAt ps j = p := by simp [pAt, List.getD_eq_getElem?_getD, List.getElem?_eq_getElem hj, e]
  have := h j hj
  rw [e2] at this
  exact decide_eq_true this
/-- May so many planes be in a space? -/
def spc (sp : Int) (n : Nat) : Int := if sp < 0 ∨ 4 < sp ∨ (sp ≠ 0 ∧ n < 3) then 81 else 0
def chkP (sp : Int) (ps : List Pn) : Int :=
  if ps.length = 0 ∨ 4 < ps.length then 80 else if chkL ps ≠ 0 then chkL ps else if alike ps = false then 80 else spc sp ps.length
/-- A picture that may be. -/
structure OkPic (sp : Int) (ps : List Pn) (W H : Nat) : Prop where
  ok : okP W H
  n0 : 0 < ps.length
  n4 : ps.length ≤ 4
  all : ∀ p ∈ ps, p.W = (W : Int) ∧ p.H = (H : Int) ∧ p.n = W * H
  sp : spc sp ps.length = 0
theorem chkP_zero {sp : Int} {ps : List Pn} (h : chkP sp ps = 0) : ∃ W H, OkPic sp ps W H := by
  unfold chkP at h
  split at h
  · cases h
  · rename_i h1
    split at h
    · rename_i h2; exact absurd h h2
    · rename_i h2
      split at h
      · cases h
      · rename_i h3
        have h3' : alike ps = true := by cases e : alike ps with | true => rfl | false => exact absurd e h3
        have hL := chkL_all (Classical.not_not.1 h2)
        have h0 : 0 < ps.length := by omega
        obtain ⟨W, H, e1, e2, hok, hn⟩ := chk_zero (hL _ (pAt_mem h0))
        refine ⟨W, H, hok, h0, by omega, fun p hp => ?_, h⟩
        have ha := List.all_eq_true.1 h3' p hp
        simp at ha
        have hc := hL p hp
        obtain ⟨W', H', f1, f2, _, hn'⟩ := chk_zero hc
        have : W' = W := by omega
        have : H' = H := by omega
        subst_vars
        exact ⟨by omega, by omega, hn'⟩
theorem OkPic.chk {sp : Int} {ps : List Pn} {W H : Nat} (h : OkPic sp ps W H) : chkP sp ps = 0 := by
  have h1 : ∀ j, j < ps.length → (pAt ps j).chk = 0 := fun j hj => by
    obtain ⟨e1, e2, e3⟩ := h.all _ (pAt_mem hj)
    unfold Pn.chk; rw [e1, e2, e3]; exact chk_ok h.ok
  have h2 : alike ps = true := alike_of fun j hj => by
    obtain ⟨e1, e2, _⟩ := h.all _ (pAt_mem hj)
    obtain ⟨f1, f2, _⟩ := h.all _ (pAt_mem h.n0)
    rw [e1, e2, f1, f2]; exact ⟨rfl, rfl⟩
  have h3 := h.n0
  have h4 := h.n4
  unfold chkP
  rw [if_neg (by omega), chkL_zero h1, if_neg (by simp), h2, if_neg (by simp)]; exact h.sp
theorem OkPic.at {sp : Int} {ps : List Pn} {W H i : Nat} (h : OkPic sp ps W H) (hi : i < ps.length) : (pAt ps i).W = (W : Int) ∧ (pAt ps i).H = (H : Int) ∧ (pAt ps i).n = W * H := h.all _ (pAt_mem hi)
/-! ### Blocks in another order -/
def pickL (A : List (List Blk)) : List Nat → Option (List (List Blk))
  | [] => some []
  | i :: r => match A[i]?, pickL A r with
    | some x, some y => some (x :: y)
    | _, _ => none
theorem pickL_perm {A B : List (List Blk)} : ∀ {idx : List Nat}, pickL A idx = some B → B = idx.map fun i => A.getD i [] := by
  intro idx
  induction idx generalizing B with
  | nil => intro h; simp [pickL] at h; subst h; rfl
  | cons i r ih =>
    intro h
    unfold pickL at h
    cases e1 : A[i]? with
    | none => simp [e1] at h
    | some x =>
      cases e2 : pickL A r with
      | none => simp [e1, e2] at h
      | some y =>
        simp [e1, e2] at h
        subst h
        rw [ih e2]; simp [List.getD_eq_getElem?_getD, e1]
/-- Parts of what is known, in another order. -/
theorem Hp.segs {M : Nat → Prop} {w0 w : World} {A B : List (List Blk)} {idx : List Nat} (n : Nat) (h : Hp M w0 A.flatten w) (hn : A.length = n) (hp' : idx.Perm (List.range n)) (hB : pickL A idx = some B) : Hp M w0 B.flatten w := by
  have hp : idx.Perm (List.range A.length) := by rw [hn]; exact hp'
  refine h.perm (List.Perm.flatten ?_)
  rw [pickL_perm hB]
  have e : A = (List.range A.length).map fun i => A.getD i [] := by
    apply List.ext_getElem
    · simp
    · intro i h1 h2; simp [List.getD_eq_getElem?_getD, List.getElem?_eq_getElem h1]
  have := (hp.map fun i => A.getD i []).symm
  rwa [← e] at this
theorem pickL_get {A B : List (List Blk)} : ∀ {idx : List Nat}, pickL A idx = some B → ∀ i ∈ idx, i < A.length := by
  intro idx
  induction idx generalizing B with
  | nil => intro _ i hi; simp at hi
  | cons i r ih =>
    intro h j hj
    unfold pickL at h
    cases e1 : A[i]? with
    | none => simp [e1] at h
    | some x =>
      cases e2 : pickL A r with
      | none => simp [e1, e2] at h
      | some y =>
        rcases List.mem_cons.1 hj with rfl | hj
        · exact (List.getElem?_eq_some_iff.1 e1).1
        · exact ih e2 j hj
/-- Some of the parts of what is known, in another order. -/
theorem Hp.segsD {M : Nat → Prop} {w0 w : World} {A B : List (List Blk)} {idx : List Nat} (n : Nat) (rest : List Nat) (h : Hp M w0 A.flatten w) (hn : A.length = n) (hp' : (idx ++ rest).Perm (List.range n)) (hB : pickL A idx = some B) : Hp M w0 B.flatten w := by
  have hp : (idx ++ rest).Perm (List.range A.length) := by rw [hn]; exact hp'
  have h2 : Hp M w0 ((idx ++ rest).map fun i => A.getD i []).flatten w := by
    refine h.perm (List.Perm.flatten ?_)
    have e : A = (List.range A.length).map fun i => A.getD i [] := by
      apply List.ext_getElem
      · simp
      · intro i h1 h2; simp [List.getD_eq_getElem?_getD, List.getElem?_eq_getElem h1]
    have := (hp.map fun i => A.getD i []).symm
    rwa [← e] at this
  rw [List.map_append, List.flatten_append, ← pickL_perm hB] at h2
  exact h2.sub (List.sublist_append_left _ _)
/-! ### Planes in new memory; lists of them that grow -/
structure Nq where
  W : Int
  H : Int
  xs : List Int
  b : Nat
  cap : Nat
  sp : List Value
def Nq.pn (q : Nq) : Pn := ⟨q.W, q.H, some ⟨q.b, 0, none⟩, q.xs.length, q.cap, q.xs⟩
def Nq.blk (T : TypeId) (q : Nq) : Blk := ⟨q.b, q.xs.map u32 ++ q.sp, T, true⟩
def Nq.d (q : Nq) : Int × Int × List Int := (q.W, q.H, q.xs)
def Nq.Ok (q : Nq) : Prop := (q.xs.map u32 ++ q.sp).length = q.cap * 1 ∧ q.cap ≤ 9223372036854775807
structure Ac where
  qs : List Nq
  b : Nat
  cap : Nat
  sp : List Value
def Ac.n (a : Ac) : Nat := a.qs.length
def Ac.ad : Ac → Option Addr
  | ⟨[], _, _, _⟩ => none
  | ⟨_ :: _, b, _, _⟩ => some ⟨b, 0, none⟩
def Ac.cp : Ac → Nat
  | ⟨[], _, _, _⟩ => 0
  | ⟨_ :: _, _, cap, _⟩ => cap
def Ac.pl (a : Ac) : List Pn := a.qs.map Nq.pn
def Ac.ds (a : Ac) : List (Int × Int × List Int) := a.qs.map Nq.d
def Ac.row (T : TypeId) : Ac → List Blk
  | ⟨[], _, _, _⟩ => []
  | ⟨q :: r, b, _, sp⟩ => [⟨b, pcs ((q :: r).map Nq.pn) ++ sp, T, true⟩]
def Ac.Ok (a : Ac) : Prop := a.qs = [] ∨ (pcs a.pl ++ a.sp).length = a.cap * 3
def Ac.no : Ac := ⟨[], 0, 0, []⟩
def Ac.add (a : Ac) (q : Nq) (r : Nat × Nat × List Value) : Ac := ⟨a.qs ++ [q], r.1, r.2.1, r.2.2⟩
def Ac.blks (Tp Tu : TypeId) (a : Ac) : List Blk := a.row Tp ++ (a.qs.map (Nq.blk Tu) ++ [])
theorem Ac.add_n (a : Ac) (q : Nq) (r : Nat × Nat × List Value) : (a.add q r).n = a.n + 1 := by simp [Ac.n, Ac.add]
theorem Ac.add_ad (a : Ac) (q : Nq) (r : Nat × Nat × List Value) : (a.add q r).ad = some ⟨r.1, 0, none⟩ ∧ (a.add q r).cp = r.2.1 ∧ ∀ T, (a.add q r).row T = [⟨r.1, pcs a.pl ++ q.pn.cs ++ r.2.2, T, true⟩] := by
  obtain ⟨qs, b, cap, sp⟩ := a
  cases qs with
  | nil => exact ⟨rfl, rfl, fun T => by simp [Ac.add, Ac.row, pcs, Ac.pl]⟩
  | cons q0 r0 => exact ⟨rfl, rfl, fun T => by simp [Ac.add, Ac.row, pcs, Ac.pl, pcs_app]⟩
theorem Ac.sm {a : Ac} (h : a.qs ≠ []) : a.ad = some ⟨a.b, 0, none⟩ ∧ a.cp = a.cap ∧ ∀ T, a.row T = [⟨a.b, pcs a.pl ++ a.sp, T, true⟩] := by
  obtain ⟨qs, b, cap, sp⟩ := a
  cases qs with
  | nil => exact absurd rfl h
  | cons q0 r0 => exact ⟨rfl, rfl, fun T => rfl⟩
theorem Ac.nn {a : Ac} (h : a.qs = []) : a.ad = Option.none ∧ a.cp = 0 ∧ a.n = 0 ∧ (∀ T, a.row T = []) ∧ (∀ T U, a.blks T U = []) ∧ a.ds = [] := by
  obtain ⟨qs, b, cap, sp⟩ := a
  cases qs with
  | nil => exact ⟨rfl, rfl, rfl, fun T => rfl, fun T U => rfl, rfl⟩
  | cons q0 r0 => cases h
theorem Ac.row_own (a : Ac) (T : TypeId) : (a.row T).all (·.o) = true := by
  obtain ⟨qs, b, cap, sp⟩ := a
  cases qs <;> rfl
theorem Nq.own (T : TypeId) : ∀ qs : List Nq, (qs.map (Nq.blk T)).all (·.o) = true
  | [] => rfl
  | q :: r => by rw [List.map_cons, List.all_cons, Nq.own T r]; rfl
theorem Ac.blks_own (a : Ac) (Tp Tu : TypeId) : (a.blks Tp Tu).all (·.o) = true := by
  unfold Ac.blks
  rw [List.all_append, List.all_append, Ac.row_own, Nq.own]; rfl
theorem Ac.add_map (a : Ac) (q : Nq) (r : Nat × Nat × List Value) (T : TypeId) : (a.add q r).qs.map (Nq.blk T) = a.qs.map (Nq.blk T) ++ [q.blk T] := by simp [Ac.add]
theorem Ac.add_ds (a : Ac) (q : Nq) (r : Nat × Nat × List Value) : (a.add q r).ds = a.ds ++ [q.d] := by simp [Ac.add, Ac.ds]
theorem Ac.add_mem {a : Ac} {q : Nq} {r : Nat × Nat × List Value} {p : Nq → Prop} (h : ∀ x ∈ a.qs, p x) (hq : p q) : ∀ x ∈ (a.add q r).qs, p x := fun x hx => by
  rcases List.mem_append.1 hx with hx | hx
  · exact h x hx
  · rw [List.mem_singleton.1 hx]; exact hq
theorem Ac.ds_step {a : Ac} {q : Nq} {r : Nat × Nat × List Value} {g : Nat → Int × Int × List Int} (h : a.ds = (List.range a.n).map g) (hq : q.d = g a.n) : (a.add q r).ds = (List.range (a.add q r).n).map g := by
  rw [Ac.add_ds, Ac.add_n, List.range_succ, List.map_append, h, hq]; rfl
theorem Ac.ne {a : Ac} (h : 0 < a.n) : a.qs ≠ [] := fun e => by unfold Ac.n at h; rw [e] at h; exact Nat.lt_irrefl _ h
theorem Ac.pl_len (a : Ac) : a.pl.length = a.n := by simp [Ac.pl, Ac.n]
theorem Ac.ds_len (a : Ac) : a.ds.length = a.n := by simp [Ac.ds, Ac.n]
section
variable {P : Program} {Q : Exit → Act → World → Prop} {n : Nat} {M : Nat → Prop} {w0 : World} {l : List (Nat × Value)} {L : List Blk}
theorem Stp.conv {o : Oper} {σ : Type} {p p2 : σ → Prop} {l1 l2 : σ → List (Nat × Value)} {L1 L2 : σ → List Blk} (h : Stp P Q n M w0 l L o p l1 L1) (hp : ∀ x, p x → p2 x) (hl : ∀ x, p x → l1 x = l2 x) (hL : ∀ x, p x → ∀ w, Hp M w0 (L1 x) w → Hp M w0 (L2 x) w) : Stp P Q n M w0 l L o p2 l2 L2 := fun K hK a w hF hH =>
  h K (fun x hx a w hF hH => hK x (hp x hx) a w (by rw [← hl x hx]; exact hF) (hL x hx w hH)) a w hF hH
theorem Stp.from {o : Oper} {σ : Type} {p : σ → Prop} {l' : σ → List (Nat × Value)} {L' : σ → List Blk} {L2 : List Blk} (h : Stp P Q n M w0 l L2 o p l' L') (hL : ∀ w, Hp M w0 L w → Hp M w0 L2 w) : Stp P Q n M w0 l L o p l' L' := fun K hK a w hF hH => h K hK a w hF (hL w hH)
theorem GC.hp {c : Code} {L2 : List Blk} (hL : ∀ w, Hp M w0 L w → Hp M w0 L2 w) (K : GC P Q n M w0 l L2 c) : GC P Q n M w0 l L c := fun a w hF hH => K a w hF (hL w hH)
/-- A plane is appended to a list that grows, none by now or some. -/
theorem Stp.appAc {d : Nat} {T E ty : TypeId} {x y : Operand} {pos : String} {af : Array Edge} {g : Option (Nat × Bool)} {a : Ac} {q : Nq} {K R : List Blk} {b2 o2 c2 by_ : Nat} {z : List Value} (hx : opv l x = some (.slice a.ad a.n a.cp)) (hy : opv l y = some (.slice (some ⟨b2, o2, none⟩) 1 c2))
    (hT : P.underlying T = some (.slice E)) (hs : Sz P E 3) (hz : Zr P E z) (hzs : z.length = 3) (hby : (P.info? E).map (·.bytes) = some by_) (hL : L = K ++ (a.row E ++ R)) (hok : a.Ok) (hsrc : ∀ w, Hp M w0 L w → Rd w b2 o2 q.pn.cs) (hroom : (a.n + 1) * by_ ≤ 140737488355328) (h63 : a.n + 1 ≤ 9223372036854775807) (hd : d < n) :
    Stp P Q n M w0 l L ⟨some d, .call ⟨.builtin .append, #[x, y], #[T, T]⟩, ty, pos, af, g⟩ (σ := Nat × Nat × List Value) (fun r => (a.add q r).Ok) (fun r => (d, .slice (a.add q r).ad (a.add q r).n (a.add q r).cp) :: l) (fun r => K ++ ((a.add q r).row E ++ R)) := by
  have hq1 : q.pn.cs.all (·.oneCell') = true := rfl
  by_cases h0 : a.qs = []
  · obtain ⟨e1, e2, e3, e4, _⟩ := Ac.nn h0
    rw [e1, e2, e3] at hx
    rw [e4 E] at hL
    have e5 : a.pl = [] := by unfold Ac.pl; rw [h0]; rfl
    refine Stp.conv (Stp.appendNil (vs := q.pn.cs) (m := 1) hx hy hT hs hz hzs hby hsrc rfl (by omega) (by rw [e3] at hroom; exact hroom) (by omega) hd) ?_ ?_ ?_
    · intro r hr
      refine Or.inr ?_
      unfold Ac.pl Ac.add
      rw [h0]; simpa [pcs] using hr.1
    · intro r hr
      obtain ⟨f1, f2, _⟩ := Ac.add_ad a q r
      rw [f1, f2, Ac.add_n, e3]
    · intro r hr w hw
      obtain ⟨_, _, f3⟩ := Ac.add_ad a q r
      rw [f3 E, e5]
      rw [hL] at hw
      exact hw.perm List.perm_middle.symm
  · obtain ⟨e1, e2, e3⟩ := Ac.sm h0
    rw [e1, e2] at hx
    rw [e3 E] at hL
    have hcl : (pcs a.pl ++ a.sp).length = a.cap * 3 := by
      rcases hok with h | h
      · exact absurd h h0
      · exact h
    have hg : L[K.length]? = some ⟨a.b, pcs a.pl ++ a.sp, E, true⟩ := by rw [hL]; simp
    have her : L.eraseIdx K.length = K ++ R := by
      rw [hL]; simp [List.eraseIdx_append]
    refine Stp.conv (Stp.appendOwn (i := K.length) (xs := pcs a.pl) (sp := a.sp) (vs := q.pn.cs) (m := 1) hx hy hT hs hz hzs hby hg (by rw [pcs_len, Ac.pl_len]) hcl hsrc rfl hq1 hroom h63 her hd) ?_ ?_ ?_
    · intro r hr
      refine Or.inr ?_
      have : pcs (a.add q r).pl = pcs a.pl ++ q.pn.cs := by
        unfold Ac.pl Ac.add; rw [List.map_append, pcs_app]; simp [pcs]
      rw [this]; exact hr.1
    · intro r hr
      obtain ⟨f1, f2, _⟩ := Ac.add_ad a q r
      rw [f1, f2, Ac.add_n]
    · intro r hr w hw
      obtain ⟨_, _, f3⟩ := Ac.add_ad a q r
      rw [f3 E]
      exact hw.perm List.perm_middle.symm
end
theorem below_succ {p : Nat → Prop} {k : Nat} (h : ∀ j, j < k → p j) (hk : p k) : ∀ j, j < k + 1 → p j := fun j hj => by
  rcases Nat.lt_succ_iff_lt_or_eq.1 hj with h1 | rfl
  · exact h j h1
  · exact hk
/-- A plane in new memory is told. -/
def RetP (w : World) (d : Int × Int × List Int) (Tu : TypeId) : Ending → World → Prop :=
  Ret w (fun r : Nat × Nat × List Value => (d.2.2.map u32 ++ r.2.2).length = r.2.1 * 1 ∧ r.2.1 ≤ 9223372036854775807) (fun r => .agg #[.int .i64 d.1, .int .i64 d.2.1, .slice (some ⟨r.1, 0, none⟩) d.2.2.length r.2.1]) (fun r => [⟨r.1, d.2.2.map u32 ++ r.2.2, Tu, true⟩])
/-- The same, and no error. -/
def RetE (w : World) (d : Int × Int × List Int) (Tu : TypeId) : Ending → World → Prop :=
  Ret w (fun r : Nat × Nat × List Value => (d.2.2.map u32 ++ r.2.2).length = r.2.1 * 1 ∧ r.2.1 ≤ 9223372036854775807) (fun r => .tuple #[.agg #[.int .i64 d.1, .int .i64 d.2.1, .slice (some ⟨r.1, 0, none⟩) d.2.2.length r.2.1], .int .i64 0]) (fun r => [⟨r.1, d.2.2.map u32 ++ r.2.2, Tu, true⟩])
/-- A function of a plane and its number, that tells a plane in new memory, and no error. -/
def FnE (P : Program) (w : World) (fid : FuncId) (caps : Array Value) (ps : List Pn) (g : Nat → Int × Int × List Int) (Tu : TypeId) : Prop :=
  Own P fid ∧ ∀ i, i < ps.length → ∀ w', Keep None w w' → Calls P fid (#[.int .i64 ((i : Nat) : Int), .agg #[.int .i64 (pAt ps i).W, .int .i64 (pAt ps i).H, .slice (pAt ps i).ad (pAt ps i).n (pAt ps i).cap]] ++ caps) w'
    (RetE w' (g i) Tu)
/-- A call that makes memory, in a caller's heap. -/
theorem Ret.frm {P : Program} {f : FuncId} {args : Array Value} {w w0 : World} {M : Nat → Prop} {L : List Blk} {σ : Type} {p : σ → Prop} {v : σ → Value} {N : σ → List Blk} (hw : Hp M w0 L w) (hc : Calls P f args w (Ret w p v N)) {L' : σ → List Blk} (hL : ∀ x w', p x → Hp M w0 (N x ++ L) w' → Hp M w0 (L' x) w') : Calls P f args w fun e w' => ∃ x, e = .returned (v x) ∧ p x ∧ Hp M w0 (L' x) w' :=
  hc.mono fun e w' ⟨x, he, hp, hn⟩ => ⟨x, he, hp, hL x w' hp (hw.news hn)⟩
theorem Ret.to {w w' : World} {e : Ending} {σ τ : Type} {p : σ → Prop} {v : σ → Value} {N : σ → List Blk} {p' : τ → Prop} {v' : τ → Value} {N' : τ → List Blk} (f : σ → τ) (h : Ret w p v N e w') (hp : ∀ x, p x → p' (f x)) (hv : ∀ x, p x → v x = v' (f x)) (hN : ∀ x, p x → N x = N' (f x)) : Ret w p' v' N' e w' := by
  obtain ⟨x, he, hx, hn⟩ := h
  exact ⟨f x, by rw [he, hv x hx], hp x hx, by rw [← hN x hx]; exact hn⟩
/-- Perhaps a plane. -/
def poW : Option Nq → Int
  | none => 0
  | some q => q.W
def poH : Option Nq → Int
  | none => 0
  | some q => q.H
def poA : Option Nq → Option Addr
  | none => none
  | some q => some ⟨q.b, 0, none⟩
def poN : Option Nq → Nat
  | none => 0
  | some q => q.xs.length
def poC : Option Nq → Nat
  | none => 0
  | some q => q.cap
def poB (T : TypeId) : Option Nq → List Blk
  | none => []
  | some q => [q.blk T]
def poOk : Option Nq → Prop
  | none => True
  | some q => q.Ok
/-- What the makers of pictures tell: errors, spaces, planes. -/
def newE (sp k w h : Int) : Int := if k < 1 ∨ 4 < k then 80 else if sizeB w h = false then 50 else spc sp k.toNat
def picS (e sp : Int) : Int := if e = 0 then sp else 0
def newD (sp k w h s : Int) : List (Int × Int × List Int) := if newE sp k w h = 0 then (List.range k.toNat).map fun _ => (w, h, tab w.toNat (fun _ _ => s) (w.toNat * h.toNat)) else []
def plE (sp : Int) (ps : List Pn) (k : Int) : Int := if chkP sp ps ≠ 0 then chkP sp ps else if 0 ≤ k ∧ k < ps.length then 0 else 82
def plD (sp : Int) (ps : List Pn) (k : Int) : Option (Int × Int × List Int) := if plE sp ps k = 0 then some (pAt ps k.toNat).d else none
def wiE (sp : Int) (ps : List Pn) (k : Int) (q : Pn) : Int := if plE sp ps k ≠ 0 then plE sp ps k else if q.chk ≠ 0 then q.chk else if q.W ≠ (pAt ps 0).W ∨ q.H ≠ (pAt ps 0).H then 80 else 0
def wiD (sp : Int) (ps : List Pn) (k : Int) (q : Pn) : List (Int × Int × List Int) := if wiE sp ps k q = 0 then (List.range ps.length).map fun i => if ((i : Nat) : Int) = k then q.d else (pAt ps i).d else []
theorem newE_mid {sp : Int} {k W H : Nat} (hk : 1 ≤ k ∧ k ≤ 4) (hok : okP W H) : newE sp ((k : Nat) : Int) W H = spc sp k := by
  unfold newE; rw [if_neg (by omega), if_neg (by rw [sizeB_ok hok]; simp)]; rfl
theorem newD_bad {sp k w h s : Int} (he : newE sp k w h ≠ 0) : newD sp k w h s = [] := by unfold newD; rw [if_neg he]
theorem newD_ok {sp s : Int} {k W H : Nat} (he : newE sp ((k : Nat) : Int) W H = 0) : newD sp ((k : Nat) : Int) W H s = (List.range k).map fun _ => ((W : Int), (H : Int), tab W (fun _ _ => s) (W * H)) := by unfold newD; rw [if_pos he]; rfl
theorem plE_bad {sp : Int} {ps : List Pn} (k : Int) (h : chkP sp ps ≠ 0) : plE sp ps k = chkP sp ps := by unfold plE; rw [if_pos h]
theorem plE_out {sp : Int} {ps : List Pn} {k : Int} (h : chkP sp ps = 0) (hk : ¬ (0 ≤ k ∧ k < ps.length)) : plE sp ps k = 82 := by unfold plE; rw [if_neg (by rw [h]; simp), if_neg hk]
theorem plE_in {sp : Int} {ps : List Pn} {k : Int} (h : chkP sp ps = 0) (hk : 0 ≤ k ∧ k < ps.length) : plE sp ps k = 0 := by unfold plE; rw [if_neg (by rw [h]; simp), if_pos hk]
theorem OkPic.samp {sp : Int} {ps : List Pn} {W H i b o : Nat} {w : World} (h : OkPic sp ps W H) (hps : Pns w b o ps) (hi : i < ps.length) : ∃ b' o', (pAt ps i).ad = some ⟨b', o', none⟩ ∧ (pAt ps i).xs.length = W * H ∧ Rd w b' o' ((pAt ps i).xs.map u32) := by
  obtain ⟨e1, e2, e3⟩ := h.at hi
  obtain ⟨hl, hn⟩ := hps.ok _ (pAt_mem hi)
  have hp := Nat.mul_pos (show 0 < W from h.ok.1) (show 0 < H from h.ok.2.1)
  rcases hl.2.2.2 with q | ⟨b', o', e, hr⟩
  · omega
  · exact ⟨b', o', e, by rw [hl.1, e3], hr⟩
theorem Rd.pl {w : World} {b o i : Nat} {ps : List Pn} (h : Rd w b o (pcs ps)) (hi : i < ps.length) : ∀ j v, (pAt ps i).cs[j]? = some v → w.cell? ⟨b, o + i * 3 + j, none⟩ = some v := fun j v hv => by
  have hj : j < 3 := by have := (List.getElem?_eq_some_iff.1 hv).1; simpa [Pn.cs] using this
  have := h (i * 3 + j) v (by rw [pcs_at hi hj]; exact hv)
  rwa [← Nat.add_assoc] at this
/-- A list of planes that is read alone. -/
def PnR (w : World) (ad : Option Addr) (ps : List Pn) : Prop := (ps = [] ∨ ∃ b o, ad = some ⟨b, o, none⟩ ∧ Rd w b o (pcs ps)) ∧ ∀ p ∈ ps, LsR w p.ad p.n p.xs ∧ p.n ≤ 35184372087808
theorem PnsA.r {w : World} {ad : Option Addr} {ps : List Pn} (h : PnsA w ad ps) : PnR w ad ps := ⟨h.1, fun p hp => ⟨(h.2 p hp).1.r, (h.2 p hp).2⟩⟩
theorem Rd.of_heap {w : World} {b : Nat} {cs : List Value} {T : TypeId} (h : w.heap[b]? = some (.cells cs.toArray T (0, 0))) : Rd w b 0 cs := fun j v hv => by
  rw [Nat.zero_add]
  have := (Hp.cell (M := None) (w0 := w) (L := [⟨b, cs, T, false⟩]) (w := w) ⟨Keep.refl _ _, fun k hk => by rw [List.mem_singleton.1 hk]; exact ⟨h, fun q => by cases q⟩, List.pairwise_singleton _ _⟩ (i := 0) rfl j)
  rw [this]; exact hv
theorem Ac.r {w : World} {a : Ac} {Tp Tu : TypeId} (h : ∀ k ∈ a.blks Tp Tu, w.heap[k.b]? = some (.cells k.cs.toArray k.T (0, 0))) (hb : ∀ q ∈ a.qs, q.xs.length ≤ 65536) : PnR w a.ad a.pl := by
  refine ⟨?_, fun p hp => ?_⟩
  · by_cases h0 : a.qs = []
    · exact Or.inl (by unfold Ac.pl; rw [h0]; rfl)
    · obtain ⟨e1, e2, e3⟩ := Ac.sm h0
      refine Or.inr ⟨a.b, 0, e1, ?_⟩
      have := Rd.of_heap (h _ (List.mem_append_left _ (by rw [e3 Tp]; exact List.mem_singleton.2 rfl)))
      exact fun j v hv => this j v (by rw [List.getElem?_append_left (List.getElem?_eq_some_iff.1 hv).1]; exact hv)
  · obtain ⟨q, hq, rfl⟩ := List.mem_map.1 hp
    have := Rd.of_heap (h (q.blk Tu) (List.mem_append_right _ (List.mem_append_left _ (List.mem_map.2 ⟨q, hq, rfl⟩))))
    refine ⟨LsR.blk rfl fun j v hv => this j v ?_, by have := hb q hq; show q.xs.length ≤ _; omega⟩
    show (q.xs.map u32 ++ q.sp)[j]? = _
    have hv' : (q.xs.map u32)[j]? = Option.some v := hv
    rw [List.getElem?_append_left (List.getElem?_eq_some_iff.1 hv').1]; exact hv'
/-- A plane is put into a list of planes. -/
theorem pcs_set : ∀ (ps : List Pn) (p : Pn) (j : Nat) (sp : List Value), j < ps.length → splice (pcs ps ++ sp) (j * 3) p.cs = pcs (ps.set j p) ++ sp
  | [], p, j, sp, h => absurd h (Nat.not_lt_zero _)
  | q :: r, p, 0, sp, h => by simp [splice, pcs, Pn.cs]
  | q :: r, p, j + 1, sp, h => by
    have := pcs_set r p j sp (by simpa using h)
    unfold splice at this ⊢
    have e : (j + 1) * 3 = j * 3 + 3 := by omega
    rw [e, List.set_cons_succ]
    simp only [pcs, Pn.cs, List.cons_append, List.nil_append] at this ⊢
    simp only [List.length_cons, List.length_nil] at this ⊢
    rw [show j * 3 + 3 + (0 + 1 + 1 + 1) = (j * 3 + (0 + 1 + 1 + 1)) + 1 + 1 + 1 by omega]
    rw [List.drop_succ_cons, List.drop_succ_cons, List.drop_succ_cons, List.take_succ_cons, List.take_succ_cons, List.take_succ_cons, List.cons_append, List.cons_append, List.cons_append, List.cons_append, List.cons_append, List.cons_append]
    rw [← this]
def Ac.put (a : Ac) (j : Nat) (q : Nq) : Ac := { a with qs := a.qs.set j q }
theorem Ac.put_ds (a : Ac) (j : Nat) (q : Nq) : (a.put j q).ds = a.ds.set j q.d := by simp [Ac.put, Ac.ds, List.map_set]
theorem Ac.put_pl (a : Ac) (j : Nat) (q : Nq) : (a.put j q).pl = a.pl.set j q.pn := by simp [Ac.put, Ac.pl, List.map_set]
theorem Ac.put_n (a : Ac) (j : Nat) (q : Nq) : (a.put j q).n = a.n := by simp [Ac.put, Ac.n]
theorem Ac.put_ne {a : Ac} (j : Nat) (q : Nq) (h : a.qs ≠ []) : (a.put j q).qs ≠ [] := fun e => h (by simpa [Ac.put] using e)
theorem Ac.put_mem {a : Ac} {j : Nat} {q : Nq} {p : Nq → Prop} (h : ∀ x ∈ a.qs, p x) (hq : p q) : ∀ x ∈ (a.put j q).qs, p x := fun x hx => by
  rcases List.mem_or_eq_of_mem_set hx with hx | rfl
  · exact h x hx
  · exact hq
theorem set_perm {α : Type} : ∀ {l : List α} {j : Nat} (h : j < l.length) (a : α), (a :: l.eraseIdx j).Perm (l.set j a)
  | [], j, h, a => absurd h (Nat.not_lt_zero _)
  | x :: r, 0, h, a => List.Perm.refl _
  | x :: r, j + 1, h, a => by
    rw [List.eraseIdx_cons_succ, List.set_cons_succ]
    exact (List.Perm.swap x a _).trans ((set_perm (by simpa using h) a).cons x)
/-- The blocks behind it. -/
theorem Ac.put_hp {M : Nat → Prop} {w0 w : World} {K : List Blk} {a : Ac} {j : Nat} {q : Nq} {Tp Tu : TypeId} (hne : a.qs ≠ []) (hj : j < a.n) (h : Hp M w0 (K ++ (⟨a.b, pcs (a.put j q).pl ++ a.sp, Tp, true⟩ :: q.blk Tu :: a.qs.map (Nq.blk Tu))) w) : Hp M w0 (K ++ (a.put j q).blks Tp Tu) w := by
  have e := (Ac.sm (Ac.put_ne j q hne)).2.2 Tp
  unfold Ac.blks
  rw [e, List.append_nil]
  have e2 : (a.put j q).qs.map (Nq.blk Tu) = (a.qs.map (Nq.blk Tu)).set j (q.blk Tu) := by simp [Ac.put, List.map_set]
  rw [e2]
  have h2 : Hp M w0 (K ++ (⟨a.b, pcs (a.put j q).pl ++ a.sp, Tp, true⟩ :: q.blk Tu :: (a.qs.map (Nq.blk Tu)).eraseIdx j)) w := h.sub ((List.Sublist.refl K).append (((List.eraseIdx_sublist _ _).cons_cons _).cons_cons _))
  refine h2.perm (List.Perm.append_left K ?_)
  exact (set_perm (by simpa [Ac.n] using hj) (q.blk Tu)).cons _
def wiG (ps : List Pn) (k : Int) (q : Pn) (i : Nat) : Int × Int × List Int := if ((i : Nat) : Int) = k then q.d else (pAt ps i).d
theorem wiG_set {n : Nat} {ps : List Pn} {j : Nat} {q : Pn} : ((List.range n).map fun i => (pAt ps i).d).set j q.d = (List.range n).map (wiG ps ((j : Nat) : Int) q) := by
  apply List.ext_getElem
  · simp
  · intro i h1 h2
    rw [List.getElem_set]
    simp only [List.getElem_map, List.getElem_range, wiG]
    by_cases e : j = i
    · subst e; simp
    · rw [if_neg e, if_neg (by omega)]
theorem wiE_pl {sp : Int} {ps : List Pn} {k : Int} {q : Pn} (h : plE sp ps k ≠ 0) : wiE sp ps k q = plE sp ps k := by unfold wiE; rw [if_pos h]
theorem wiE_q {sp : Int} {ps : List Pn} {k : Int} {q : Pn} (h : plE sp ps k = 0) (hq : q.chk ≠ 0) : wiE sp ps k q = q.chk := by unfold wiE; rw [if_neg (by rw [h]; simp), if_pos hq]
theorem wiE_s {sp : Int} {ps : List Pn} {k : Int} {q : Pn} (h : plE sp ps k = 0) (hq : q.chk = 0) (hs : q.W ≠ (pAt ps 0).W ∨ q.H ≠ (pAt ps 0).H) : wiE sp ps k q = 80 := by unfold wiE; rw [if_neg (by rw [h]; simp), if_neg (by rw [hq]; simp), if_pos hs]
theorem wiE_ok {sp : Int} {ps : List Pn} {k : Int} {q : Pn} (h : plE sp ps k = 0) (hq : q.chk = 0) (hs : ¬ (q.W ≠ (pAt ps 0).W ∨ q.H ≠ (pAt ps 0).H)) : wiE sp ps k q = 0 := by unfold wiE; rw [if_neg (by rw [h]; simp), if_neg (by rw [hq]; simp), if_neg hs]
theorem wiD_bad {sp : Int} {ps : List Pn} {k : Int} {q : Pn} (h : wiE sp ps k q ≠ 0) : wiD sp ps k q = [] := by unfold wiD; rw [if_neg h]
theorem wiD_ok {sp : Int} {ps : List Pn} {k : Int} {q : Pn} (h : wiE sp ps k q = 0) : wiD sp ps k q = (List.range ps.length).map (wiG ps k q) := by unfold wiD; rw [if_pos h]; rfl
theorem pAt_d {ps qs : List Pn} {i : Nat} (h : ps.map Pn.d = qs.map Pn.d) (hi : i < ps.length) : (pAt ps i).d = (pAt qs i).d := by
  have hl : ps.length = qs.length := by have := congrArg List.length h; simpa using this
  have e1 : pAt ps i = ps[i] := by simp [pAt, List.getD_eq_getElem?_getD, List.getElem?_eq_getElem hi]
  have e2 : pAt qs i = qs[i]'(by omega) := by simp [pAt, List.getD_eq_getElem?_getD, List.getElem?_eq_getElem (show i < qs.length by omega)]
  have := congrArg (fun l : List (Int × Int × List Int) => l[i]?) h
  simp only [List.getElem?_map, List.getElem?_eq_getElem hi, List.getElem?_eq_getElem (show i < qs.length by omega), Option.map_some, Option.some.injEq] at this
  rw [e1, e2]; exact this
end Sx
