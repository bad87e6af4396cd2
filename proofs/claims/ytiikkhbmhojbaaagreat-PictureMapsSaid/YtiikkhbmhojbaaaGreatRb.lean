/- A Room's and a Book's blocks, however many lists they hold. No program is named here. -/
import Derived.Test.YtiikkhbmhojbaaaGreatPc
namespace Sx
open Go Go.RowKit
set_option linter.unusedVariables false
def nilS : Value := .slice none 0 0
/-- A list that was lent: where it lies, where its copy lies. -/
structure RIt where
  a : Nat
  n : Nat
  xs : List Int
  c : Nat
  d : Nat
  sp : List Value
def RIt.v1 (t : RIt) : Value := .slice (some ⟨t.a, 0, none⟩) (t.n + 5) (t.n + 5)
def RIt.v2 (t : RIt) : Value := .slice (some ⟨t.c, 0, none⟩) (t.n + 5) t.d
def RIt.blks (Tu : TypeId) (t : RIt) : List Blk := [⟨t.c, (roomL t.xs).map u32 ++ t.sp, Tu, true⟩, ⟨t.a, (roomL t.xs).map u32, Tu, true⟩]
def RIt.Ok (t : RIt) : Prop := t.xs.length = t.n ∧ t.n ≤ 35184372087808
structure Rm where
  rb : Nat
  its : List RIt
  b1 : Nat
  c1 : Nat
  s1 : List Value
  b2 : Nat
  c2 : Nat
  s2 : List Value
def Rm.cs (r : Rm) : List Value := match r.its with
  | [] => [nilS, nilS, nilS, nilS, nilS, nilS, nilS, nilS]
  | _ :: _ => [.slice (some ⟨r.b1, 0, none⟩) r.its.length r.c1, .slice (some ⟨r.b2, 0, none⟩) r.its.length r.c2, nilS, nilS, nilS, nilS, nilS, nilS]
def Rm.rows (Ts : TypeId) (r : Rm) : List Blk := match r.its with
  | [] => []
  | _ :: _ => [⟨r.b1, r.its.map RIt.v1 ++ r.s1, Ts, true⟩, ⟨r.b2, r.its.map RIt.v2 ++ r.s2, Ts, true⟩]
def rblks (Tu : TypeId) : List RIt → List Blk
  | [] => []
  | t :: r => t.blks Tu ++ rblks Tu r
theorem rblks_app (Tu : TypeId) : ∀ l m : List RIt, rblks Tu (l ++ m) = rblks Tu l ++ rblks Tu m
  | [], m => rfl
  | t :: r, m => by simp [rblks, rblks_app Tu r m]
theorem rblks_mem {Tu : TypeId} : ∀ {l : List RIt} {t : RIt} {k : Blk}, t ∈ l → k ∈ t.blks Tu → k ∈ rblks Tu l
  | [], t, k, h, _ => by simp at h
  | x :: r, t, k, h, hk => by
    rcases List.mem_cons.1 h with rfl | h
    · exact List.mem_append_left _ hk
    · exact List.mem_append_right _ (rblks_mem h hk)
def Rm.blks (Tr Ts Tu : TypeId) (r : Rm) : List Blk := ⟨r.rb, r.cs, Tr, true⟩ :: (r.rows Ts ++ rblks Tu r.its)
def Rm.Ok (r : Rm) : Prop := (r.its = [] ∨ ((r.its.map RIt.v1 ++ r.s1).length = r.c1 * 1 ∧ (r.its.map RIt.v2 ++ r.s2).length = r.c2 * 1)) ∧ ∀ t ∈ r.its, t.Ok
/-- A list that is kept: its block. -/
def It.blk (Tu : TypeId) (t : It) : List Blk := match t.ad with
  | none => []
  | some a => [⟨a.block, (mks t.m t.cap).map u32, Tu, true⟩]
def iblks (Tu : TypeId) : List It → List Blk
  | [] => []
  | t :: r => t.blk Tu ++ iblks Tu r
theorem iblks_app (Tu : TypeId) : ∀ l m : List It, iblks Tu (l ++ m) = iblks Tu l ++ iblks Tu m
  | [], m => rfl
  | t :: r, m => by simp [iblks, iblks_app Tu r m]
theorem iblks_mem {Tu : TypeId} : ∀ {l : List It} {t : It} {k : Blk}, t ∈ l → k ∈ t.blk Tu → k ∈ iblks Tu l
  | [], t, k, h, _ => by simp at h
  | x :: r, t, k, h, hk => by
    rcases List.mem_cons.1 h with rfl | h
    · exact List.mem_append_left _ hk
    · exact List.mem_append_right _ (iblks_mem h hk)
structure Bk where
  kb : Nat
  its : List It
  b1 : Nat
  c1 : Nat
  s1 : List Value
  b2 : Nat
  c2 : Nat
  s2 : List Value
def Bk.cs (r : Bk) : List Value := match r.its with
  | [] => [nilS, nilS, nilS, nilS, nilS, nilS, nilS, nilS]
  | _ :: _ => [.slice (some ⟨r.b1, 0, none⟩) r.its.length r.c1, nilS, nilS, nilS, .slice (some ⟨r.b2, 0, none⟩) r.its.length r.c2, nilS, nilS, nilS]
def Bk.rows (Ts Ti : TypeId) (r : Bk) : List Blk := match r.its with
  | [] => []
  | _ :: _ => [⟨r.b1, r.its.map It.v ++ r.s1, Ts, true⟩, ⟨r.b2, r.its.map It.mv ++ r.s2, Ti, true⟩]
def Bk.blks (Tk Ts Ti Tu : TypeId) (r : Bk) : List Blk := ⟨r.kb, r.cs, Tk, true⟩ :: (r.rows Ts Ti ++ iblks Tu r.its)
/-- A kept list lies at its block's begin, or is none. -/
def It.Ok0 (t : It) : Prop := t.cap ≤ 9223372036854775807 ∧ (t.cap = 0 ∨ ∃ b, t.ad = some ⟨b, 0, none⟩)
def Bk.Ok (r : Bk) : Prop := (r.its = [] ∨ ((r.its.map It.v ++ r.s1).length = r.c1 * 1 ∧ (r.its.map It.mv ++ r.s2).length = r.c2 * 1)) ∧ ∀ t ∈ r.its, t.Ok0
/-! ### Planes lent -/
def zPn : Pn := ⟨0, 0, none, 0, 0, []⟩
theorem pcs_rep : ∀ (n i : Nat), i < n * 3 → (pcs (List.replicate n zPn))[i]? = zPn.cs[i % 3]?
  | 0, i, h => absurd h (by omega)
  | n + 1, i, h => by
    rw [List.replicate_succ, pcs]
    by_cases hi : i < 3
    · rw [List.getElem?_append_left (by simpa [Pn.cs] using hi), Nat.mod_eq_of_lt hi]
    · rw [List.getElem?_append_right (by simpa [Pn.cs] using Nat.le_of_not_lt hi)]
      have e : i - zPn.cs.length = i - 3 := rfl
      rw [e, pcs_rep n (i - 3) (by omega), show (i - 3) % 3 = i % 3 by omega]
theorem made_pl (n : Nat) : (madeCells zPn.cs.toArray (n * 3)).toList = pcs (List.replicate n zPn) := by
  apply List.ext_getElem
  · simp [madeCells, pcs_len]
  · intro i h1 h2
    have h3 : i < n * 3 := by simpa [madeCells] using h1
    have h4 := pcs_rep n i h3
    rw [List.getElem?_eq_getElem h2] at h4
    have h5 : i % 3 < zPn.cs.length := Nat.mod_lt _ (by decide)
    rw [List.getElem?_eq_getElem h5] at h4
    rw [Option.some.inj h4]
    have e : (madeCells zPn.cs.toArray (n * 3)).toList[i] = zPn.cs.toArray[i % zPn.cs.toArray.size]! := by simp [madeCells]
    rw [e]
    have h6 : zPn.cs.toArray.size = 3 := rfl
    rw [h6]
    exact getElem!_pos zPn.cs.toArray (i % 3) h5
theorem made_pl' (n : Nat) : (madeCells [Value.int .i64 0, .int .i64 0, .slice none 0 0].toArray (n * 3)).toList = pcs (List.replicate n zPn) := made_pl n
def Rm.no (rb : Nat) : Rm := ⟨rb, [], 0, 0, [], 0, 0, []⟩
def Bk.no (kb : Nat) : Bk := ⟨kb, [], 0, 0, [], 0, 0, []⟩
theorem Rm.no_ok (rb : Nat) : (Rm.no rb).Ok := ⟨Or.inl rfl, fun t h => by cases h⟩
theorem Bk.no_ok (kb : Nat) : (Bk.no kb).Ok := ⟨Or.inl rfl, fun t h => by cases h⟩
/-- A plane, lent. -/
def lpn (p : Pn) (t : RIt) : Pn := ⟨p.W, p.H, some ⟨t.a, 0, none⟩, p.n, p.n + 5, p.xs⟩
def lpl : List RIt → List Pn → List Pn
  | [], _ => []
  | t :: ts, ps => lpn (pAt ps 0) t :: lpl ts ps.tail
def RFor : List RIt → List Pn → Prop
  | [], _ => True
  | t :: ts, ps => (0 < ps.length ∧ t.xs = (pAt ps 0).xs ∧ t.n = (pAt ps 0).n) ∧ RFor ts ps.tail
theorem pAt_tail (ps : List Pn) (i : Nat) : pAt ps.tail i = pAt ps (i + 1) := by cases ps <;> simp [pAt]
theorem RFor.add : ∀ {its : List RIt} {ps : List Pn} {t : RIt}, RFor its ps → its.length < ps.length → t.xs = (pAt ps its.length).xs → t.n = (pAt ps its.length).n → RFor (its ++ [t]) ps
  | [], ps, t, _, h, h1, h2 => ⟨⟨h, h1, h2⟩, trivial⟩
  | t0 :: its, ps, t, hr, h, h1, h2 => ⟨hr.1, RFor.add (ps := ps.tail) hr.2 (by rw [List.length_tail]; simp at h; omega) (by rw [pAt_tail]; exact h1) (by rw [pAt_tail]; exact h2)⟩
theorem lpl_len : ∀ (its : List RIt) (ps : List Pn), (lpl its ps).length = its.length
  | [], _ => rfl
  | t :: ts, ps => by simp [lpl, lpl_len ts ps.tail]
theorem lpl_set : ∀ (its : List RIt) (ps : List Pn) (t : RIt) (k : Nat), (lpl its ps ++ List.replicate (k + 1) zPn).set its.length (lpn (pAt ps its.length) t) = lpl (its ++ [t]) ps ++ List.replicate k zPn
  | [], ps, t, k => by simp [lpl, List.replicate_succ]
  | t0 :: its, ps, t, k => by
    have := lpl_set its ps.tail t k
    rw [pAt_tail] at this
    simp only [lpl, List.cons_append, List.length_cons, List.set_cons_succ, this]
theorem lpl_d : ∀ {its : List RIt} {ps : List Pn}, its.length = ps.length → (lpl its ps).map Pn.d = ps.map Pn.d
  | [], [], _ => rfl
  | [], p :: r, h => by simp at h
  | t :: ts, [], h => by simp at h
  | t :: ts, p :: r, h => by
    have := lpl_d (its := ts) (ps := r) (by simpa using h)
    simp only [lpl, List.map_cons, List.tail_cons, this]; rfl
theorem lpl_ok {w0 w : World} : ∀ {its : List RIt} {ps : List Pn}, RFor its ps → (∀ p ∈ ps, p.Ok w0) → (∀ t ∈ its, Rd w t.a 0 ((roomL t.xs).map u32)) → ∀ p ∈ lpl its ps, p.Ok w
  | [], _, _, _, _, p, h => by cases h
  | t :: ts, ps, hr, h1, h2, p, h => by
    rcases List.mem_cons.1 h with rfl | h
    · have h0 := h1 _ (pAt_mem hr.1.1)
      have ha := h2 t (List.mem_cons_self ..)
      rw [hr.1.2.1] at ha
      exact ⟨h0.1.lent ha, h0.2⟩
    · exact lpl_ok hr.2 (fun p hp => h1 p (List.mem_of_mem_tail hp)) (fun t ht => h2 t (List.mem_cons_of_mem _ ht)) p h
/-- The list of planes that was lent. -/
def lentB (Tp : TypeId) (ps : List Pn) (x : Rm × Nat) : List Blk := [⟨x.2, pcs (lpl x.1.its ps ++ List.replicate 5 zPn), Tp, true⟩]
theorem lpl_store {its its' : List RIt} {ps : List Pn} {t : RIt} {n : Nat} (hn : its.length < n) (e : its' = its ++ [t]) : splice (pcs (lpl its ps ++ List.replicate (n + 5 - its.length) zPn)) (its.length * 3) (lpn (pAt ps its.length) t).cs = pcs (lpl its' ps ++ List.replicate (n + 5 - its'.length) zPn) := by
  subst e
  rw [List.length_append, List.length_singleton, ← lpl_set its ps t (n + 5 - (its.length + 1)), show n + 5 - (its.length + 1) + 1 = n + 5 - its.length by omega]
  have := pcs_set (lpl its ps ++ List.replicate (n + 5 - its.length) zPn) (lpn (pAt ps its.length) t) its.length [] (by rw [List.length_append, lpl_len, List.length_replicate]; omega)
  rwa [List.append_nil, List.append_nil] at this
/-! ### Parts of what is known, a rest behind them -/
def flatT : List (List Blk) → List Blk → List Blk
  | [], T => T
  | a :: l, T => a ++ flatT l T
theorem flatT_eq (T : List Blk) : ∀ A : List (List Blk), flatT A T = A.flatten ++ T
  | [] => rfl
  | a :: l => by simp [flatT, flatT_eq T l]
theorem Hp.segsT {M : Nat → Prop} {w0 w : World} {A B : List (List Blk)} {T : List Blk} {idx : List Nat} (n : Nat) (rest : List Nat) (h : Hp M w0 (flatT A T) w) (hn : A.length = n) (hp' : (idx ++ rest).Perm (List.range n)) (hB : pickL A idx = some B) : Hp M w0 (flatT B T) w := by
  have hp : (idx ++ rest).Perm (List.range A.length) := by rw [hn]; exact hp'
  rw [flatT_eq] at h ⊢
  have e : A = (List.range A.length).map fun i => A.getD i [] := by
    apply List.ext_getElem
    · simp
    · intro i h1 h2; simp [List.getD_eq_getElem?_getD, List.getElem?_eq_getElem h1]
  have hq := (hp.map fun i => A.getD i []).symm
  rw [← e] at hq
  have h2 := h.perm (List.Perm.append_right T (List.Perm.flatten hq))
  rw [List.map_append, List.flatten_append, ← pickL_perm hB, List.append_assoc] at h2
  exact h2.sub (List.Sublist.append (List.Sublist.refl _) (List.sublist_append_right _ _))
/-! ### A list of planes in new memory, kept -/
def nqAt (a : Ac) (i : Nat) : Nq := a.qs.getD i ⟨0, 0, [], 0, 0, []⟩
theorem nqAt_eq {a : Ac} {i : Nat} (h : i < a.n) : nqAt a i = a.qs[i]'h := by
  have h' : i < a.qs.length := h
  simp [nqAt, List.getD_eq_getElem?_getD, List.getElem?_eq_getElem h']
  rfl
theorem nqAt_mem {a : Ac} {i : Nat} (h : i < a.n) : nqAt a i ∈ a.qs := by rw [nqAt_eq h]; exact List.getElem_mem _
theorem drop_blk {a : Ac} {i : Nat} (T : TypeId) (h : i < a.n) : (a.qs.drop i).map (Nq.blk T) = poB T (some (nqAt a i)) ++ (a.qs.drop (i + 1)).map (Nq.blk T) := by
  rw [List.drop_eq_getElem_cons (show i < a.qs.length from h), List.map_cons, nqAt_eq h]; rfl
theorem pcs_take : ∀ (ps : List Pn) (sp : List Value) (i : Nat), i < ps.length → ((pcs ps ++ sp).drop (i * 3)).take 3 = (pAt ps i).cs
  | [], _, i, h => absurd h (Nat.not_lt_zero _)
  | p :: r, sp, 0, _ => by simp [pcs, Pn.cs, pAt]
  | p :: r, sp, i + 1, h => by
    have := pcs_take r sp i (by simpa using h)
    rw [show (i + 1) * 3 = i * 3 + 1 + 1 + 1 by omega]
    simpa [pcs, Pn.cs, pAt] using this
theorem nq_take {a : Ac} {i : Nat} (h : i < a.n) (sp : List Value) : ((pcs a.pl ++ sp).drop (i * 3)).take 3 = (nqAt a i).pn.cs := by
  rw [pcs_take _ _ _ (by rw [Ac.pl_len]; exact h)]
  have h' : i < a.qs.length := h
  simp [pAt, Ac.pl, nqAt, List.getD_eq_getElem?_getD, List.getElem?_eq_getElem h']
theorem Ac.pl_d (a : Ac) : a.pl.map Pn.d = a.ds := by simp only [Ac.pl, Ac.ds, List.map_map]; rfl
theorem Ac.lens {a : Ac} {ds : List (Int × Int × List Int)} (e : a.ds = ds) (h : ∀ d ∈ ds, d.2.2.length ≤ 65536) : ∀ q ∈ a.qs, q.xs.length ≤ 65536 := fun q hq => h q.d (by rw [← e]; exact List.mem_map.2 ⟨q, hq, rfl⟩)
/-! ### What was lent is as it was -/
def ritAt (its : List RIt) (i : Nat) : RIt := its.getD i ⟨0, 0, [], 0, 0, []⟩
theorem ritAt_mem {its : List RIt} {i : Nat} (h : i < its.length) : ritAt its i ∈ its := by
  have : ritAt its i = its[i] := by simp [ritAt, List.getD_eq_getElem?_getD, List.getElem?_eq_getElem h]
  rw [this]; exact List.getElem_mem h
theorem rit_v1 {its : List RIt} {i : Nat} (h : i < its.length) (sp : List Value) : (its.map RIt.v1 ++ sp)[i]? = some (.slice (some ⟨(ritAt its i).a, 0, none⟩) ((ritAt its i).n + 5) ((ritAt its i).n + 5)) := by
  rw [List.getElem?_append_left (by simpa using h)]
  simp [ritAt, List.getD_eq_getElem?_getD, List.getElem?_eq_getElem h, RIt.v1]
theorem rit_v2 {its : List RIt} {i : Nat} (h : i < its.length) (sp : List Value) : (its.map RIt.v2 ++ sp)[i]? = some (.slice (some ⟨(ritAt its i).c, 0, none⟩) ((ritAt its i).n + 5) (ritAt its i).d) := by
  rw [List.getElem?_append_left (by simpa using h)]
  simp [ritAt, List.getD_eq_getElem?_getD, List.getElem?_eq_getElem h, RIt.v2]
def RIt.Rd (w : World) (t : RIt) : Prop := t.Ok ∧ Sx.Rd w t.a 0 ((roomL t.xs).map u32) ∧ Sx.Rd w t.c 0 ((roomL t.xs).map u32)
/-! ### What a picture's planes tell, wherever they lie -/
def Pn.k (p : Pn) : Int × Int × Nat × List Int := (p.W, p.H, p.n, p.xs)
theorem lpl_k : ∀ {its : List RIt} {ps : List Pn}, its.length = ps.length → (lpl its ps).map Pn.k = ps.map Pn.k
  | [], [], _ => rfl
  | [], p :: r, h => by simp at h
  | t :: ts, [], h => by simp at h
  | t :: ts, p :: r, h => by
    have := lpl_k (its := ts) (ps := r) (by simpa using h)
    simp only [lpl, List.map_cons, List.tail_cons, this]; rfl
theorem pAt_k {ps qs : List Pn} (h : ps.map Pn.k = qs.map Pn.k) (i : Nat) : (pAt ps i).k = (pAt qs i).k := by
  have e : ∀ l : List Pn, (pAt l i).k = (l.map Pn.k).getD i (0, 0, 0, []) := fun l => by
    simp only [pAt, List.getD_eq_getElem?_getD, List.getElem?_map]
    cases l[i]? <;> rfl
  rw [e, e, h]
theorem k_len {ps qs : List Pn} (h : ps.map Pn.k = qs.map Pn.k) : ps.length = qs.length := by have := congrArg List.length h; simpa using this
theorem Pn.k_eq {p q : Pn} (h : p.k = q.k) : p.W = q.W ∧ p.H = q.H ∧ p.n = q.n ∧ p.xs = q.xs := by
  unfold Pn.k at h; simp only [Prod.mk.injEq] at h; exact h
theorem chkL_k : ∀ {ps qs : List Pn}, ps.map Pn.k = qs.map Pn.k → chkL ps = chkL qs
  | [], [], _ => rfl
  | [], q :: s, h => by simp at h
  | p :: r, [], h => by simp at h
  | p :: r, q :: s, h => by
    simp only [List.map_cons, List.cons.injEq] at h
    obtain ⟨e1, e2, e3, _⟩ := Pn.k_eq h.1
    have e : p.chk = q.chk := by unfold Pn.chk; rw [e1, e2, e3]
    unfold chkL
    rw [e, chkL_k h.2]
theorem alike_k {ps qs : List Pn} (h : ps.map Pn.k = qs.map Pn.k) : alike ps = alike qs := by
  obtain ⟨a1, a2, _⟩ := Pn.k_eq (pAt_k h 0)
  have e : ∀ l : List Pn, alike l = (l.map Pn.k).all fun k => decide (k.1 = (pAt l 0).W ∧ k.2.1 = (pAt l 0).H) := fun l => by
    unfold alike; rw [List.all_map]; rfl
  rw [e, e, h, a1, a2]
theorem chkP_k {sp : Int} {ps qs : List Pn} (h : ps.map Pn.k = qs.map Pn.k) : chkP sp ps = chkP sp qs := by
  unfold chkP; rw [k_len h, chkL_k h, alike_k h]
theorem plE_k {sp k : Int} {ps qs : List Pn} (h : ps.map Pn.k = qs.map Pn.k) : plE sp ps k = plE sp qs k := by
  unfold plE; rw [chkP_k h, k_len h]
theorem pAt_kd {ps qs : List Pn} (h : ps.map Pn.k = qs.map Pn.k) (i : Nat) : (pAt ps i).d = (pAt qs i).d := by
  obtain ⟨a1, a2, _, a4⟩ := Pn.k_eq (pAt_k h i)
  unfold Pn.d; rw [a1, a2, a4]
theorem plD_k {sp k : Int} {ps qs : List Pn} (h : ps.map Pn.k = qs.map Pn.k) : plD sp ps k = plD sp qs k := by
  unfold plD; rw [plE_k h, pAt_kd h]
theorem wiE_k {sp k : Int} {ps qs : List Pn} {q : Pn} (h : ps.map Pn.k = qs.map Pn.k) : wiE sp ps k q = wiE sp qs k q := by
  obtain ⟨a1, a2, _⟩ := Pn.k_eq (pAt_k h 0)
  unfold wiE; rw [plE_k h, a1, a2]
theorem wiD_k {sp k : Int} {ps qs : List Pn} {q : Pn} (h : ps.map Pn.k = qs.map Pn.k) : wiD sp ps k q = wiD sp qs k q := by
  unfold wiD
  rw [wiE_k h, k_len h]
  have e : (fun i : Nat => if ((i : Nat) : Int) = k then q.d else (pAt ps i).d) = fun i : Nat => if ((i : Nat) : Int) = k then q.d else (pAt qs i).d := by
    funext i; rw [pAt_kd h]
  rw [e]
theorem chk_r (W H : Int) (n : Nat) : 0 ≤ chk W H n ∧ chk W H n ≤ 1000 := by unfold chk; split <;> (try split) <;> omega
theorem spc_r (sp : Int) (n : Nat) : 0 ≤ spc sp n ∧ spc sp n ≤ 1000 := by unfold spc; split <;> omega
theorem chkL_r : ∀ ps : List Pn, 0 ≤ chkL ps ∧ chkL ps ≤ 1000
  | [] => by simp [chkL]
  | p :: r => by
    unfold chkL
    split
    · exact chkL_r r
    · exact chk_r _ _ _
theorem chkP_r (sp : Int) (ps : List Pn) : 0 ≤ chkP sp ps ∧ chkP sp ps ≤ 1000 := by
  have h1 := chkL_r ps
  have h2 := spc_r sp ps.length
  unfold chkP; split <;> (try split) <;> (try split) <;> omega
theorem plE_r (sp : Int) (ps : List Pn) (k : Int) : 0 ≤ plE sp ps k ∧ plE sp ps k ≤ 1000 := by
  have h1 := chkP_r sp ps
  unfold plE; split <;> (try split) <;> omega
theorem wiE_r (sp : Int) (ps : List Pn) (k : Int) (q : Pn) : 0 ≤ wiE sp ps k q ∧ wiE sp ps k q ≤ 1000 := by
  have h1 := plE_r sp ps k
  have h2 : 0 ≤ q.chk ∧ q.chk ≤ 1000 := chk_r _ _ _
  unfold wiE; split <;> (try split) <;> (try split) <;> omega
theorem newE_r (sp k w h : Int) : 0 ≤ newE sp k w h ∧ newE sp k w h ≤ 1000 := by
  have h2 := spc_r sp k.toNat
  unfold newE; split <;> (try split) <;> omega
theorem newE_zero {sp k w h : Int} (e : newE sp k w h = 0) : (1 ≤ k ∧ k ≤ 4) ∧ sizeB w h = true := by
  unfold newE at e
  split at e
  · omega
  · split at e
    · omega
    · rename_i h1 h2
      exact ⟨by omega, by cases hh : sizeB w h with | true => rfl | false => exact absurd hh h2⟩
theorem newD_n (sp k w h s : Int) : (newD sp k w h s).length ≤ 4 := by
  unfold newD
  split
  · rename_i e
    have := (newE_zero e).1
    simp; omega
  · simp
theorem newD_x (sp k w h s : Int) : ∀ d ∈ newD sp k w h s, d.2.2.length ≤ 65536 := by
  intro d hd
  unfold newD at hd
  split at hd
  · rename_i e
    obtain ⟨_, hs⟩ := newE_zero e
    simp at hd
    obtain ⟨_, rfl⟩ := hd
    simp only [tab_len]
    have h1 := hs
    simp [sizeB] at h1
    obtain ⟨W, rfl⟩ := Int.eq_ofNat_of_zero_le (show 0 ≤ w by omega)
    obtain ⟨H, rfl⟩ := Int.eq_ofNat_of_zero_le (show 0 ≤ h by omega)
    have := Int.natCast_mul W H
    simp only [Int.toNat_natCast]; omega
  · simp at hd
theorem plE_zero {sp : Int} {ps : List Pn} {k : Int} (e : plE sp ps k = 0) : chkP sp ps = 0 ∧ 0 ≤ k ∧ k < ps.length := by
  unfold plE at e
  split at e
  · rename_i h; exact absurd e h
  · rename_i h
    split at e
    · rename_i h2; exact ⟨Classical.not_not.1 h, h2⟩
    · omega
theorem wiE_zero {sp : Int} {ps : List Pn} {k : Int} {q : Pn} (e : wiE sp ps k q = 0) : plE sp ps k = 0 ∧ q.chk = 0 := by
  unfold wiE at e
  split at e
  · rename_i h; exact absurd e h
  · rename_i h
    split at e
    · rename_i h2; exact absurd e h2
    · rename_i h2; exact ⟨Classical.not_not.1 h, Classical.not_not.1 h2⟩
theorem wiD_n (sp : Int) (ps : List Pn) (k : Int) (q : Pn) : (wiD sp ps k q).length ≤ 4 := by
  unfold wiD
  split
  · rename_i e
    obtain ⟨W, H, hok⟩ := chkP_zero (plE_zero (wiE_zero e).1).1
    simpa using hok.n4
  · simp
theorem wiD_x {w : World} (sp : Int) (ps : List Pn) (k : Int) (q : Pn) (h1 : ∀ p ∈ ps, p.Ok w) (h2 : q.Ok w) : ∀ d ∈ wiD sp ps k q, d.2.2.length ≤ 65536 := by
  intro d hd
  unfold wiD at hd
  split at hd
  · rename_i e
    obtain ⟨W, H, hok⟩ := chkP_zero (plE_zero (wiE_zero e).1).1
    obtain ⟨W', H', _, _, hok2, hn2⟩ := chk_zero (wiE_zero e).2
    simp at hd
    obtain ⟨i, hi, rfl⟩ := hd
    split
    · show q.xs.length ≤ _
      rw [h2.1.1, hn2]; exact hok2.2.2.2.2
    · show (pAt ps i).xs.length ≤ _
      rw [(h1 _ (pAt_mem hi)).1.1, (hok.at hi).2.2]; exact hok.ok.2.2.2.2
  · simp at hd
/-- Perhaps a plane, as it lies. -/
def poX : Option Nq → List Int
  | none => []
  | some q => q.xs
def poP (o : Option Nq) : Pn := ⟨poW o, poH o, poA o, poN o, poC o, poX o⟩
theorem poP_d {o u : Option Nq} (h : o.map Nq.d = u.map Nq.d) : (poP o).d = (poP u).d := by
  cases o <;> cases u <;> simp_all [poP, Pn.d, Nq.d, poW, poH, poX]
theorem po_r {w : World} {o : Option Nq} {T : TypeId} (h : ∀ k ∈ poB T o, w.heap[k.b]? = some (.cells k.cs.toArray k.T (0, 0))) : LsR w (poA o) (poN o) (poX o) := by
  cases o with
  | none => exact ⟨rfl, Or.inl rfl⟩
  | some q =>
    have := Rd.of_heap (h (q.blk T) (List.mem_singleton.2 rfl))
    refine LsR.blk rfl fun j v hv => this j v ?_
    show (q.xs.map u32 ++ q.sp)[j]? = _
    have hv' : (q.xs.map u32)[j]? = Option.some v := hv
    rw [List.getElem?_append_left (List.getElem?_eq_some_iff.1 hv').1]; exact hv'
theorem po_n {w : World} {sp k : Int} {ps : List Pn} {o : Option Nq} (h : o.map Nq.d = plD sp ps k) (h1 : ∀ p ∈ ps, p.Ok w) : poN o ≤ 35184372087808 := by
  cases o with
  | none => exact Nat.zero_le _
  | some q =>
    unfold plD at h
    split at h
    · rename_i e
      obtain ⟨_, h0, hk⟩ := plE_zero e
      have e2 : q.d = (pAt ps k.toNat).d := by simpa using h
      have e3 : q.xs = (pAt ps k.toNat).xs := congrArg (fun d => d.2.2) e2
      have h2 := h1 _ (pAt_mem (show k.toNat < ps.length by omega))
      show q.xs.length ≤ _
      rw [e3, h2.1.1]; exact h2.2
    · simp at h
/-- A picture that was lent can be read. -/
theorem lent_a {w0 w : World} {r : Rm} {its : List RIt} {ps : List Pn} {ob : Nat} {Tp Tr Ts Tu : TypeId} (hF : RFor its ps) (hps : ∀ p ∈ ps, p.Ok w0) (hs : ∀ t ∈ its, t ∈ r.its) (hh : ∀ k ∈ r.blks Tr Ts Tu, w.heap[k.b]? = some (.cells k.cs.toArray k.T (0, 0))) (ho : ∀ k ∈ [(⟨ob, pcs (lpl its ps ++ List.replicate 5 zPn), Tp, true⟩ : Blk)], w.heap[k.b]? = some (.cells k.cs.toArray k.T (0, 0))) : PnsA w (some ⟨ob, 0, none⟩) (lpl its ps) := by
  refine ⟨Or.inr ⟨ob, 0, rfl, ?_⟩, lpl_ok hF hps fun t ht => ?_⟩
  · have := Rd.of_heap (ho _ (List.mem_singleton.2 rfl))
    exact fun j v hv => this j v (by show (pcs (lpl its ps ++ List.replicate 5 zPn))[j]? = _; rw [pcs_app, List.getElem?_append_left (List.getElem?_eq_some_iff.1 hv).1]; exact hv)
  · exact Rd.of_heap (hh ⟨t.a, (roomL t.xs).map u32, Tu, true⟩ (List.mem_cons_of_mem _ (List.mem_append_right _ (rblks_mem (hs t ht) (List.mem_cons_of_mem _ (List.mem_cons_self ..))))))
theorem lent_q {w0 w : World} {r : Rm} {t : RIt} {q : Pn} {Tr Ts Tu : TypeId} (hq : q.Ok w0) (e : t.xs = q.xs) (hs : t ∈ r.its) (hh : ∀ k ∈ r.blks Tr Ts Tu, w.heap[k.b]? = some (.cells k.cs.toArray k.T (0, 0))) : (lpn q t).Ok w := by
  have ha := Rd.of_heap (hh ⟨t.a, (roomL t.xs).map u32, Tu, true⟩ (List.mem_cons_of_mem _ (List.mem_append_right _ (rblks_mem hs (List.mem_cons_of_mem _ (List.mem_cons_self ..))))))
  have ha' : Rd w t.a 0 ((roomL t.xs).map u32) := ha
  rw [e] at ha'
  exact ⟨hq.1.lent ha', hq.2⟩
/-- A part of what is known. -/
theorem Hp.seg {M : Nat → Prop} {w0 w : World} {A : List (List Blk)} {T B : List Blk} (h : Hp M w0 (flatT A T) w) (i : Nat) (hB : A[i]? = some B) : ∀ k ∈ B, w.heap[k.b]? = some (.cells k.cs.toArray k.T (0, 0)) := fun k hk => by
  rw [flatT_eq] at h
  exact (h.2.1 k (List.mem_append_left _ (List.mem_flatten.2 ⟨B, List.mem_of_getElem? hB, hk⟩))).1
/-- A state of a family, some parts of what is known named. -/
theorem St.hp {n : Nat} {M : Nat → Prop} {w0 : World} {l : List (Nat × Value)} {L : List Blk} {σ : Type} {p : σ → Prop} {l' : σ → List (Nat × Value)} {L' : σ → List Blk} (s : σ) (hp : p s) (hl : Sx.sub l (l' s)) (hL : ∀ w, Hp M w0 L w → Hp M w0 (L' s) w) : GE n M w0 l L (St n M w0 p l' L') :=
  fun _ w hF hH => ⟨s, hp, hF.sub hl, hL w hH⟩
/-- A quiet operation is taken; what the region must be for it, in one word. -/
theorem GH.tk {P : Program} {ops : Array Oper} {Q : Exit → Act → World → Prop} {n : Nat} {M : Nat → Prop} {w0 : World} {l : List (Nat × Value)} {L : List Blk} {LS : List Blk} {fuel : Nat} {listed : Array Bool} (i : Nat) {d : Nat} {op : Op} {ty : TypeId} {pos : String} {after : Array Edge} {v : Value} (hi : ops[i]? = some ⟨some d, op, ty, pos, after, none⟩)
    (hs : (Region.noSelect ops && Region.free .any ops listed i && (Region.ready .any ops listed).contains i) = true)
    (hQ : ∀ (c : List PanicEntry) (a : Act) (w : World), Q (.panic c) (a.put (some d) v) w → Q (.panic c) a w)
    (hE : Ex P n M w0 l LS op v) (hL : LS.Sublist L) (hd : d < n)
    (K : GH P ops Q n M w0 LS ((d, v) :: l) L fuel (listed.setIfInBounds i true)) : GH P ops Q n M w0 LS l L (fuel + 1) listed := by
  simp only [Bool.and_eq_true] at hs
  exact GH.take i hi hs.1.1 hs.1.2 hs.2 hQ hE hL hd K
theorem GL.mv {P : Program} {ops : Array Oper} {Q : Exit → Act → World → Prop} {n : Nat} {M : Nat → Prop} {w0 : World} {l : List (Nat × Value)} {L : List Blk} {d : Nat} {ty : TypeId} {pos : String} {after : Array Edge} {rest : List Oper} {v : Value} {x : Operand} (hx : opv l x = some v) (hd : d < n) (K : GL P ops Q n M w0 ((d, v) :: l) L rest) : GL P ops Q n M w0 l L (⟨some d, .move x, ty, pos, after, none⟩ :: rest) := GL.val (Ex.move hx) hd K
theorem GL.sg {P : Program} {ops : Array Oper} {Q : Exit → Act → World → Prop} {n : Nat} {M : Nat → Prop} {w0 : World} {l : List (Nat × Value)} {L : List Blk} {d : Nat} {ty : TypeId} {pos : String} {after : Array Edge} {rest : List Oper} {v : Value} {x : Operand} (hx : opv l x = some v) (hd : d < n) (K : GL P ops Q n M w0 ((d, v) :: l) L rest) : GL P ops Q n M w0 l L (⟨some d, .assign x, ty, pos, after, none⟩ :: rest) := GL.val (Ex.assign hx) hd K
/-! ### A function of samples -/
def FnS (P : Program) (w : World) (fid : FuncId) (fst caps : Array Value) (xs : List Int) (f : Int → Int) : Prop :=
  Own P fid ∧ ∀ x ∈ xs, ∀ w', Keep None w w' → Calls P fid (fst ++ #[.int .u32 x] ++ caps) w' (Ret w' (fun _ : Unit => True) (fun _ => .int .u32 (f x)) (fun _ => []))
theorem FnS.later {P : Program} {w w' : World} {fid : FuncId} {fst caps : Array Value} {xs : List Int} {f : Int → Int} (h : FnS P w fid fst caps xs f) (hk : Keep None w w') : FnS P w' fid fst caps xs f :=
  ⟨h.1, fun x hx w2 h2 => h.2 x hx w2 (hk.trans h2 (fun _ _ h => h))⟩
def mpC (f : Int → Int) (xs : List Int) (i : Nat) : List Value := ((xs.take i).map f).map u32 ++ List.replicate (xs.length - i) (.int .u32 0)
theorem mpC_len (f : Int → Int) (xs : List Int) (i : Nat) (h : i ≤ xs.length) : (mpC f xs i).length = xs.length := by simp [mpC]; omega
theorem mpC_zero (f : Int → Int) (xs : List Int) : mpC f xs 0 = List.replicate xs.length (.int .u32 0) := by simp [mpC]
theorem mpC_full (f : Int → Int) (xs : List Int) : mpC f xs xs.length = (xs.map f).map u32 := by simp [mpC]
theorem splice_app (a r : List Value) (u v : Value) : splice (a ++ u :: r) a.length [v] = a ++ v :: r := by
  unfold splice
  rw [List.take_append_of_le_length (Nat.le_refl _), List.take_of_length_le (Nat.le_refl _), List.drop_append]
  simp
theorem mpC_step (f : Int → Int) (xs : List Int) (i : Nat) (h : i < xs.length) : splice (mpC f xs i) i [.int .u32 (f (xs.getD i 0))] = mpC f xs (i + 1) := by
  have e : (((xs.take i).map f).map u32).length = i := by simp; omega
  have e2 : xs.take (i + 1) = xs.take i ++ [xs.getD i 0] := by
    rw [List.take_add_one, List.getD_eq_getElem?_getD, List.getElem?_eq_getElem h]; rfl
  have h3 := splice_app (((xs.take i).map f).map u32) (List.replicate (xs.length - (i + 1)) (.int .u32 0)) (.int .u32 0) (.int .u32 (f (xs.getD i 0)))
  rw [e, ← List.replicate_succ, show xs.length - (i + 1) + 1 = xs.length - i by omega] at h3
  unfold mpC
  rw [h3, e2]
  simp [u32]
theorem getD_mem {xs : List Int} {i : Nat} (h : i < xs.length) : xs.getD i 0 ∈ xs := by
  rw [List.getD_eq_getElem?_getD, List.getElem?_eq_getElem h]; exact List.getElem_mem h
def mpG (f : Int → Int) (k : Int) (ps : List Pn) (i : Nat) : Int × Int × List Int := if k = -1 ∨ ((i : Nat) : Int) = k then ((pAt ps i).W, (pAt ps i).H, (pAt ps i).xs.map f) else (pAt ps i).d
/-! ### Two lists of samples put together -/
def FnS2 (P : Program) (w : World) (fid : FuncId) (xs ys : List Int) (f : Int → Int → Int) : Prop :=
  Own P fid ∧ ∀ x ∈ xs, ∀ y ∈ ys, ∀ w', Keep None w w' → Calls P fid #[.int .u32 x, .int .u32 y] w' (Ret w' (fun _ : Unit => True) (fun _ => .int .u32 (f x y)) (fun _ => []))
theorem FnS2.later {P : Program} {w w' : World} {fid : FuncId} {xs ys : List Int} {f : Int → Int → Int} (h : FnS2 P w fid xs ys f) (hk : Keep None w w') : FnS2 P w' fid xs ys f :=
  ⟨h.1, fun x hx y hy w2 h2 => h.2 x hx y hy w2 (hk.trans h2 (fun _ _ h => h))⟩
def zpL (f : Int → Int → Int) (xs ys : List Int) (k : Nat) : List Int := (List.range xs.length).map fun j => if j < k then f (xs.getD j 0) (ys.getD j 0) else xs.getD j 0
def zpX (f : Int → Int → Int) (xs ys : List Int) : List Int := (List.range xs.length).map fun j => f (xs.getD j 0) (ys.getD j 0)
theorem zpL_len (f : Int → Int → Int) (xs ys : List Int) (k : Nat) : (zpL f xs ys k).length = xs.length := by simp [zpL]
theorem zpL_zero (f : Int → Int → Int) (xs ys : List Int) : zpL f xs ys 0 = xs := by
  apply List.ext_getElem
  · simp [zpL]
  · intro i h1 h2
    simp [zpL, List.getD_eq_getElem?_getD, List.getElem?_eq_getElem h2]
theorem zpL_full (f : Int → Int → Int) (xs ys : List Int) : zpL f xs ys xs.length = zpX f xs ys := by
  apply List.ext_getElem
  · simp [zpL, zpX]
  · intro i h1 h2
    have : i < xs.length := by simpa [zpX] using h2
    simp [zpL, zpX, this]
theorem zpL_step (f : Int → Int → Int) (xs ys : List Int) (k : Nat) (h : k < xs.length) : (zpL f xs ys k).set k (f (xs.getD k 0) (ys.getD k 0)) = zpL f xs ys (k + 1) := by
  apply List.ext_getElem
  · simp [zpL]
  · intro i h1 h2
    rw [List.getElem_set]
    simp only [zpL, List.getElem_map, List.getElem_range]
    by_cases e : k = i
    · subst e; simp
    · rw [if_neg e]
      by_cases e2 : i < k
      · rw [if_pos e2, if_pos (by omega)]
      · rw [if_neg e2, if_neg (by omega)]
theorem set_st {l : List Int} {k : Nat} {v : Int} (sp : List Value) (h : k < l.length) : splice (l.map u32 ++ sp) k [.int .u32 v] = (l.set k v).map u32 ++ sp := by
  unfold splice
  rw [List.take_append_of_le_length (by simp; omega), List.length_singleton, List.drop_append_of_le_length (by simp; omega), ← List.append_assoc]
  congr 1
  rw [List.set_eq_take_append_cons_drop, if_pos h]
  simp [u32, List.map_take, List.map_drop]
def twG (f : Int → Int → Int) (ps qs : List Pn) (i : Nat) : Int × Int × List Int := ((pAt ps i).W, (pAt ps i).H, zpX f (pAt ps i).xs (pAt qs i).xs)
/-! ### Three planes, changed place by place -/
theorem three {a : Ac} {n : Nat} {g : Nat → Int × Int × List Int} (h : a.ds = (List.range n).map g) (hn : 3 ≤ n) : ∃ q0 q1 q2 rs, a.qs = q0 :: q1 :: q2 :: rs ∧ q0.d = g 0 ∧ q1.d = g 1 ∧ q2.d = g 2 ∧ rs.map Nq.d = (List.range (n - 3)).map fun i => g (i + 3) := by
  obtain ⟨k, rfl⟩ : ∃ k, n = k + 3 := ⟨n - 3, by omega⟩
  unfold Ac.ds at h
  rw [show k + 3 = 3 + k by omega, List.range_add, List.map_append] at h
  match e : a.qs, h with
  | [], h => simp [List.range_succ] at h
  | [_], h => simp [List.range_succ] at h
  | [_, _], h => simp [List.range_succ] at h
  | q0 :: q1 :: q2 :: rs, h =>
    simp [List.range_succ] at h
    refine ⟨q0, q1, q2, rs, rfl, h.1, h.2.1, h.2.2.1, ?_⟩
    rw [h.2.2.2, show k + 3 - 3 = k by omega]
    apply List.map_congr_left
    intro i _
    simp [Nat.add_comm]
end Sx
