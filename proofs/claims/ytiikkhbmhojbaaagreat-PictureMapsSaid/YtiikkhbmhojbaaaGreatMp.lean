/- A list of samples that grows; what is read under a part of what is known; a map that is told of. No program is named here. -/
import Derived.Test.YtiikkhbmhojbaaaGreatTr
namespace Sx
open Go Go.RowKit
set_option linter.unusedVariables false
/-- A list of samples that grows, none by now or some. -/
structure Aw where
  xs : List Int
  b : Nat
  cap : Nat
  sp : List Value
def Aw.n (a : Aw) : Nat := a.xs.length
def Aw.ad : Aw → Option Addr
  | ⟨[], _, _, _⟩ => none
  | ⟨_ :: _, b, _, _⟩ => some ⟨b, 0, none⟩
def Aw.cp : Aw → Nat
  | ⟨[], _, _, _⟩ => 0
  | ⟨_ :: _, _, cap, _⟩ => cap
def Aw.row (T : TypeId) : Aw → List Blk
  | ⟨[], _, _, _⟩ => []
  | ⟨x :: r, b, _, sp⟩ => [⟨b, (x :: r).map u32 ++ sp, T, true⟩]
def Aw.Ok (a : Aw) : Prop := a.xs = [] ∨ (a.xs.map u32 ++ a.sp).length = a.cap * 1
def Aw.no : Aw := ⟨[], 0, 0, []⟩
def Aw.add (a : Aw) (x : Int) (r : Nat × Nat × List Value) : Aw := ⟨a.xs ++ [x], r.1, r.2.1, r.2.2⟩
def Aw.ask (hb : Nat) (Ts Tu : TypeId) (a : Aw) : List Blk := ⟨hb, [.slice a.ad a.n a.cp], Ts, true⟩ :: a.row Tu
theorem Aw.add_n (a : Aw) (x : Int) (r : Nat × Nat × List Value) : (a.add x r).n = a.n + 1 := by simp [Aw.n, Aw.add]
theorem Aw.add_ad (a : Aw) (x : Int) (r : Nat × Nat × List Value) : (a.add x r).ad = some ⟨r.1, 0, none⟩ ∧ (a.add x r).cp = r.2.1 ∧ ∀ T, (a.add x r).row T = [⟨r.1, a.xs.map u32 ++ [.int .u32 x] ++ r.2.2, T, true⟩] := by
  obtain ⟨xs, b, cap, sp⟩ := a
  cases xs with
  | nil => exact ⟨rfl, rfl, fun T => rfl⟩
  | cons q0 r0 => exact ⟨rfl, rfl, fun T => by simp [Aw.add, Aw.row, u32]⟩
theorem Aw.sm {a : Aw} (h : a.xs ≠ []) : a.ad = some ⟨a.b, 0, none⟩ ∧ a.cp = a.cap ∧ ∀ T, a.row T = [⟨a.b, a.xs.map u32 ++ a.sp, T, true⟩] := by
  obtain ⟨xs, b, cap, sp⟩ := a
  cases xs with
  | nil => exact absurd rfl h
  | cons q0 r0 => exact ⟨rfl, rfl, fun T => rfl⟩
theorem Aw.nn {a : Aw} (h : a.xs = []) : a.ad = Option.none ∧ a.cp = 0 ∧ a.n = 0 ∧ ∀ T, a.row T = [] := by
  obtain ⟨xs, b, cap, sp⟩ := a
  cases xs with
  | nil => exact ⟨rfl, rfl, rfl, fun T => rfl⟩
  | cons q0 r0 => cases h
theorem Aw.row_own (a : Aw) (T : TypeId) : (a.row T).all (·.o) = true := by
  obtain ⟨xs, b, cap, sp⟩ := a
  cases xs <;> rfl
section
variable {P : Program} {Q : Exit → Act → World → Prop} {n : Nat} {M : Nat → Prop} {w0 : World} {l : List (Nat × Value)} {L : List Blk}
theorem Stp.appAw {d : Nat} {T E ty : TypeId} {x y : Operand} {pos : String} {af : Array Edge} {g : Option (Nat × Bool)} {a : Aw} {q : Int} {K R : List Blk} {b2 o2 c2 by_ : Nat} {z : List Value} (hx : opv l x = some (.slice a.ad a.n a.cp)) (hy : opv l y = some (.slice (some ⟨b2, o2, none⟩) 1 c2))
    (hT : P.underlying T = some (.slice E)) (hs : Sz P E 1) (hz : Zr P E z) (hzs : z.length = 1) (hby : (P.info? E).map (·.bytes) = some by_) (hL : L = K ++ (a.row E ++ R)) (hok : a.Ok) (hsrc : ∀ w, Hp M w0 L w → Rd w b2 o2 [.int .u32 q]) (hroom : (a.n + 1) * by_ ≤ 140737488355328) (h63 : a.n + 1 ≤ 9223372036854775807) (hd : d < n) :
    Stp P Q n M w0 l L ⟨some d, .call ⟨.builtin .append, #[x, y], #[T, T]⟩, ty, pos, af, g⟩ (σ := Nat × Nat × List Value) (fun r => (a.add q r).Ok) (fun r => (d, .slice (a.add q r).ad (a.add q r).n (a.add q r).cp) :: l) (fun r => K ++ ((a.add q r).row E ++ R)) := by
  have hq1 : ([.int .u32 q] : List Value).all (·.oneCell') = true := rfl
  by_cases h0 : a.xs = []
  · obtain ⟨e1, e2, e3, e4⟩ := Aw.nn h0
    rw [e1, e2, e3] at hx
    rw [e4 E] at hL
    refine Stp.conv (Stp.appendNil (vs := [.int .u32 q]) (m := 1) hx hy hT hs hz hzs hby hsrc rfl (by omega) (by rw [e3] at hroom; exact hroom) (by omega) hd) ?_ ?_ ?_
    · intro r hr
      refine Or.inr ?_
      unfold Aw.add
      rw [h0]; simpa [u32] using hr.1
    · intro r hr
      obtain ⟨f1, f2, _⟩ := Aw.add_ad a q r
      rw [f1, f2, Aw.add_n, e3]
    · intro r hr w hw
      obtain ⟨_, _, f3⟩ := Aw.add_ad a q r
      rw [f3 E, h0]
      rw [hL] at hw
      exact hw.perm List.perm_middle.symm
  · obtain ⟨e1, e2, e3⟩ := Aw.sm h0
    rw [e1, e2] at hx
    rw [e3 E] at hL
    have hcl : (a.xs.map u32 ++ a.sp).length = a.cap * 1 := by
      rcases hok with h | h
      · exact absurd h h0
      · exact h
    have hg : L[K.length]? = some ⟨a.b, a.xs.map u32 ++ a.sp, E, true⟩ := by rw [hL]; simp
    have her : L.eraseIdx K.length = K ++ R := by
      rw [hL]; simp [List.eraseIdx_append]
    refine Stp.conv (Stp.appendOwn (i := K.length) (xs := a.xs.map u32) (sp := a.sp) (vs := [.int .u32 q]) (m := 1) hx hy hT hs hz hzs hby hg (by simp [Aw.n]) hcl hsrc rfl hq1 hroom h63 her hd) ?_ ?_ ?_
    · intro r hr
      refine Or.inr ?_
      have : (a.add q r).xs.map u32 = a.xs.map u32 ++ [.int .u32 q] := by
        unfold Aw.add; rw [List.map_append]; rfl
      rw [this]; exact hr.1
    · intro r hr
      obtain ⟨f1, f2, _⟩ := Aw.add_ad a q r
      rw [f1, f2, Aw.add_n]
    · intro r hr w hw
      obtain ⟨_, _, f3⟩ := Aw.add_ad a q r
      rw [f3 E]
      exact hw.perm List.perm_middle.symm
/-- Loads of what is known, by a proof. -/
theorem Ex.loadF {T : TypeId} {x : Operand} {b o : Nat} {v : Value} (hx : opv l x = some (.pointer (some ⟨b, o, none⟩))) (hA : Ag P T false) (h : ∀ w, Hp M w0 L w → w.cell? ⟨b, o, none⟩ = some v) :
    Ex P n M w0 l L (.load T x) v := fun d ty pos af g a w hF hH => by
  refine run_v ?_
  show (Instr.loadAt T (a.eval x)).run P w = _
  rw [hF.eval hx]
  simp [Instr.loadAt, Instr.sureAddr, loadVar, hA.run, h w hH]
theorem Ex.loadAF {T : TypeId} {x : Operand} {b o s : Nat} {vs : List Value} (hx : opv l x = some (.pointer (some ⟨b, o, none⟩))) (hA : Ag P T true) (hS : Sz P T s) (hc : ∀ w, Hp M w0 L w → ∀ j v, vs[j]? = some v → w.cell? ⟨b, o + j, none⟩ = some v) (hl : vs.length = s) :
    Ex P n M w0 l L (.load T x) (.agg vs.toArray) := fun d ty pos af g a w hF hH => by
  refine run_v ?_
  show (Instr.loadAt T (a.eval x)).run P w = _
  rw [hF.eval hx]
  have h := run_cells (P := P) (w := w) (b := b) (o := o) (cs := vs) (hc w hH)
  rw [hl] at h
  simp [Instr.loadAt, Instr.sureAddr, loadVar, hA.run, hS.run, h]
end
/-- A part of what is known, as it lies. -/
def Hv (Z : List Blk) (w : World) : Prop := ∀ k ∈ Z, w.heap[k.b]? = some (.cells k.cs.toArray k.T (0, 0))
def addB (pb : Nat) (add : Int) (Tu : TypeId) : List Blk := [⟨pb, [.int .u32 add], Tu, true⟩]
def adU (add s : Int) : Int := (s + add) % 4294967296
theorem take_step {xs : List Int} {i : Nat} (h : i < xs.length) (l : List Int) : l ++ xs.take i ++ [xs.getD i 0] = l ++ xs.take (i + 1) := by
  rw [List.append_assoc, List.take_add_one, List.getD_eq_getElem?_getD, List.getElem?_eq_getElem h]; rfl
/-- What a map asks of a plane. -/
def mpA (k : Int) (ps : List Pn) (i : Nat) : List Int := if k = -1 ∨ ((i : Nat) : Int) = k then (pAt ps i).xs else []
def asks (q : Nat → List Int) : Nat → List Int
  | 0 => []
  | n + 1 => asks q n ++ q n
/-- A function of a plane and its number, that tells a plane in new memory, and adds to what was asked. -/
def FnA (P : Program) (w0 : World) (fid : FuncId) (caps : Array Value) (hb : Nat) (Z : List Blk) (ps : List Pn) (g : Nat → Int × Int × List Int) (q : Nat → List Int) (Ts Tu : TypeId) (mx : Nat) : Prop :=
  Own P fid ∧ ∀ i, i < ps.length → ∀ (a : Aw) (R : List Blk) (w : World), a.Ok → a.n ≤ mx → Hp None w0 (a.ask hb Ts Tu ++ (Z ++ R)) w →
    Calls P fid (#[.int .i64 ((i : Nat) : Int), .agg #[.int .i64 (pAt ps i).W, .int .i64 (pAt ps i).H, .slice (pAt ps i).ad (pAt ps i).n (pAt ps i).cap]] ++ caps) w
      (Frm (σ := Aw × (Nat × Nat × List Value)) None w0 (fun x => x.1.Ok ∧ x.1.xs = a.xs ++ q i ∧ ((g i).2.2.map u32 ++ x.2.2.2).length = x.2.2.1 * 1 ∧ x.2.2.1 ≤ 9223372036854775807)
        (fun x => .tuple #[.agg #[.int .i64 (g i).1, .int .i64 (g i).2.1, .slice (some ⟨x.2.1, 0, none⟩) (g i).2.2.length x.2.2.1], .int .i64 0]) (fun x => ⟨x.2.1, (g i).2.2.map u32 ++ x.2.2.2, Tu, true⟩ :: (x.1.ask hb Ts Tu ++ (Z ++ R))))
theorem asks_len {q : Nat → List Int} {m : Nat} (h : ∀ i, (q i).length ≤ m) : ∀ n, (asks q n).length ≤ n * m
  | 0 => by simp [asks]
  | n + 1 => by
    have := asks_len h n
    have := h n
    simp only [asks, List.length_append, Nat.succ_mul]; omega
/-! ### A plane of a list, opened and closed -/
def Nq.to (q : Nq) (ys : List Int) : Nq := ⟨q.W, q.H, ys, q.b, q.cap, q.sp⟩
theorem Nq.to_d (q : Nq) (ys : List Int) : (q.to ys).d = (q.W, q.H, ys) := rfl
theorem nq_of_ds {a : Ac} {n : Nat} {g : Nat → Int × Int × List Int} (h : a.ds = (List.range n).map g) {i : Nat} (hi : i < n) : (nqAt a i).d = g i ∧ i < a.n := by
  have hl : a.n = n := by rw [← Ac.ds_len, h]; simp
  have h1 : i < a.n := by omega
  have h' : i < a.qs.length := h1
  refine ⟨?_, h1⟩
  have e : pAt a.pl i = (nqAt a i).pn := by simp [pAt, Ac.pl, nqAt, List.getD_eq_getElem?_getD, List.getElem?_eq_getElem h']
  have e2 := (Ac.pl_at h hi).1
  rw [e] at e2
  rw [← e2]; rfl
theorem row_at {a : Ac} {i A : Nat} (hi : i < a.n) (hA : (nqAt a i).xs.length = A) : (pcs a.pl ++ a.sp)[i * 3 + 2]? = some (.slice (some ⟨(nqAt a i).b, 0, none⟩) A (nqAt a i).cap) := by
  have hl : i * 3 + 2 < (pcs a.pl).length := by rw [pcs_len, Ac.pl_len]; omega
  rw [List.getElem?_append_left hl, pcs_at (by rw [Ac.pl_len]; exact hi) (by decide)]
  have e : pAt a.pl i = (nqAt a i).pn := by
    have h' : i < a.qs.length := hi
    simp [pAt, Ac.pl, nqAt, List.getD_eq_getElem?_getD, List.getElem?_eq_getElem h']
  rw [e, ← hA]; rfl
theorem nq_perm {a : Ac} {i : Nat} (T : TypeId) (hi : i < a.n) : ((nqAt a i).blk T :: (a.qs.eraseIdx i).map (Nq.blk T)).Perm (a.qs.map (Nq.blk T)) := by
  have h' : i < a.qs.length := hi
  rw [nqAt_eq hi, ← List.map_cons]
  have h2 := set_perm h' (a.qs[i])
  rw [List.set_getElem_self] at h2
  exact List.Perm.map _ h2
theorem nq_perm' {a : Ac} {i : Nat} (T : TypeId) (q : Nq) (hi : i < a.n) : (q.blk T :: (a.qs.eraseIdx i).map (Nq.blk T)).Perm ((a.put i q).qs.map (Nq.blk T)) := by
  rw [← List.map_cons]
  exact List.Perm.map _ (set_perm (show i < a.qs.length from hi) q)
theorem perm_in {α : Type} {x : α} {K A E E' T : List α} (h : (x :: E).Perm E') : (x :: (K ++ (A ++ (E ++ T)))).Perm (K ++ (A ++ (E' ++ T))) := by
  have h1 : (x :: (K ++ (A ++ (E ++ T)))).Perm (K ++ (A ++ (x :: E ++ T))) := by
    have := (List.perm_middle (a := x) (l₁ := K ++ A) (l₂ := E ++ T)).symm
    simpa [List.append_assoc] using this
  exact h1.trans (List.Perm.append_left _ (List.Perm.append_left _ (List.Perm.append_right _ h)))
theorem Hp.opens {M : Nat → Prop} {w0 w : World} {K A T : List Blk} {a : Ac} {i : Nat} {Tu : TypeId} (hi : i < a.n) (h : Hp M w0 (K ++ (A ++ (a.qs.map (Nq.blk Tu) ++ T))) w) : Hp M w0 ((nqAt a i).blk Tu :: (K ++ (A ++ ((a.qs.eraseIdx i).map (Nq.blk Tu) ++ T)))) w :=
  h.perm (perm_in (nq_perm Tu hi)).symm
theorem Hp.closes {M : Nat → Prop} {w0 w : World} {K A T : List Blk} {a : Ac} {i : Nat} {Tu : TypeId} (q : Nq) (hi : i < a.n) (h : Hp M w0 (q.blk Tu :: (K ++ (A ++ ((a.qs.eraseIdx i).map (Nq.blk Tu) ++ T)))) w) : Hp M w0 (K ++ (A ++ ((a.put i q).qs.map (Nq.blk Tu) ++ T))) w :=
  h.perm (perm_in (nq_perm' Tu q hi))
theorem pcs_same : ∀ {ps : List Pn} {i : Nat} {p : Pn}, i < ps.length → p.cs = (pAt ps i).cs → pcs (ps.set i p) = pcs ps
  | [], i, p, h, _ => absurd h (Nat.not_lt_zero _)
  | q :: r, 0, p, _, e => by
    have e' : p.cs = q.cs := e
    simp [pcs, e']
  | q :: r, i + 1, p, h, e => by
    have := pcs_same (ps := r) (i := i) (p := p) (by simpa using h) e
    simp [pcs, this]
theorem put_pcs {a : Ac} {i : Nat} {ys : List Int} (hi : i < a.n) (hl : ys.length = (nqAt a i).xs.length) : pcs (a.put i ((nqAt a i).to ys)).pl = pcs a.pl := by
  rw [Ac.put_pl]
  refine pcs_same (by rw [Ac.pl_len]; exact hi) ?_
  have e : pAt a.pl i = (nqAt a i).pn := by
    have h' : i < a.qs.length := hi
    simp [pAt, Ac.pl, nqAt, List.getD_eq_getElem?_getD, List.getElem?_eq_getElem h']
  rw [e]
  show [_, _, Value.slice _ ys.length _] = [_, _, Value.slice _ (nqAt a i).xs.length _]
  rw [hl]; rfl
/-- A map under way: the first i planes are mapped. -/
def mpH (f : Int → Int) (k : Int) (ps : List Pn) (i j : Nat) : Int × Int × List Int := if j < i then mpG f k ps j else (pAt ps j).d
theorem mpG_eq {f : Int → Int} {k : Int} {ps : List Pn} {i : Nat} {ys : List Int} (h : ys = if k = -1 ∨ ((i : Nat) : Int) = k then (pAt ps i).xs.map f else (pAt ps i).xs) : mpG f k ps i = ((pAt ps i).W, (pAt ps i).H, ys) := by
  unfold mpG; rw [h]; split <;> rfl
theorem mpH_set {f : Int → Int} {k : Int} {ps : List Pn} {n i : Nat} {d : Int × Int × List Int} (hd : d = mpG f k ps i) : ((List.range n).map (mpH f k ps i)).set i d = (List.range n).map (mpH f k ps (i + 1)) := by
  apply List.ext_getElem
  · simp
  · intro j h1 h2
    rw [List.getElem_set]
    simp only [List.getElem_map, List.getElem_range, mpH]
    by_cases e : i = j
    · subst e; rw [if_pos rfl, if_pos (by omega), hd]
    · rw [if_neg e]
      by_cases e2 : j < i
      · rw [if_pos e2, if_pos (by omega)]
      · rw [if_neg e2, if_neg (by omega)]
theorem mpH_zero {f : Int → Int} {k : Int} {ps : List Pn} {n : Nat} : (List.range n).map (mpH f k ps 0) = (List.range n).map fun i => (pAt ps i).d := by
  apply List.map_congr_left
  intro i _
  unfold mpH; rw [if_neg (by omega)]
theorem mpH_all {f : Int → Int} {k : Int} {ps : List Pn} {n : Nat} : (List.range n).map (mpH f k ps n) = (List.range n).map (mpG f k ps) := by
  apply List.map_congr_left
  intro i hi
  unfold mpH; rw [if_pos (by simpa using hi)]
theorem trL_map {f : Int → Int} {xs : List Int} {n : Nat} (h : xs.length = n) : trL (fun k => f (xs.getD k 0)) xs n = xs.map f := by
  rw [trL_full h]
  apply List.ext_getElem
  · simp [h]
  · intro i h1 h2
    have hi : i < xs.length := by simpa using h2
    simp [List.getD_eq_getElem?_getD, List.getElem?_eq_getElem hi]
theorem rend {f : Int → Int} {k : Int} {ps : List Pn} {i A m : Nat} {xs : List Int} (el : (pAt ps i).xs.length = A) (hx : xs = asks (mpA k ps) i ++ (pAt ps i).xs.take m) (h0 : m = 0 ∨ k = -1 ∨ ((i : Nat) : Int) = k) (h1 : (k = -1 ∨ ((i : Nat) : Int) = k) → m = A) :
    (trL (fun j => f ((pAt ps i).xs.getD j 0)) (pAt ps i).xs m = if k = -1 ∨ ((i : Nat) : Int) = k then (pAt ps i).xs.map f else (pAt ps i).xs) ∧ xs = asks (mpA k ps) (i + 1) := by
  by_cases hc : k = -1 ∨ ((i : Nat) : Int) = k
  · have hyA := h1 hc
    rw [if_pos hc, hyA]
    refine ⟨trL_map el, ?_⟩
    rw [hx, hyA, ← el, List.take_length]
    show _ = asks _ _ ++ mpA k ps i
    rw [show mpA k ps i = (pAt ps i).xs from if_pos hc]
  · have hy0 : m = 0 := h0.resolve_right hc
    rw [if_neg hc, hy0, trL_zero]
    refine ⟨rfl, ?_⟩
    rw [hx, hy0]
    show _ = asks _ _ ++ mpA k ps i
    rw [show mpA k ps i = [] from if_neg hc]; rfl
/-! ### What was told, read again -/
theorem Aw.r {w : World} {a : Aw} {T : TypeId} (h : Hv (a.row T) w) : LsR w a.ad a.n a.xs := by
  by_cases h0 : a.xs = []
  · obtain ⟨e1, _, e3, _⟩ := Aw.nn h0
    rw [e1, e3, h0]; exact LsR.nil _ _
  · obtain ⟨e1, _, e3⟩ := Aw.sm h0
    rw [e1]
    have := Rd.of_heap (h _ (by rw [e3 T]; exact List.mem_singleton.2 rfl))
    exact LsR.blk rfl fun j v hv => this j v (by rw [List.getElem?_append_left (List.getElem?_eq_some_iff.1 hv).1]; exact hv)
theorem Ac.r2 {w : World} {a : Ac} {Tp Tu : TypeId} (h1 : Hv (a.row Tp) w) (h2 : Hv (a.qs.map (Nq.blk Tu)) w) (hb : ∀ q ∈ a.qs, q.xs.length ≤ 65536) : PnR w a.ad a.pl :=
  Ac.r (Tp := Tp) (Tu := Tu) (fun k hk => by
    rcases List.mem_append.1 hk with hk | hk
    · exact h1 k hk
    · rw [List.append_nil] at hk; exact h2 k hk) hb
theorem Hv.l {A B : List Blk} {w : World} (h : Hv (A ++ B) w) : Hv A w := fun k hk => h k (List.mem_append_left _ hk)
theorem Hv.r {A B : List Blk} {w : World} (h : Hv (A ++ B) w) : Hv B w := fun k hk => h k (List.mem_append_right _ hk)
theorem PnsA.addr {w : World} {b o : Nat} {ps : List Pn} (h : PnsA w (some ⟨b, o, none⟩) ps) (h0 : 0 < ps.length) : Pns w b o ps := by
  obtain ⟨b', o', e, hp⟩ := h.at h0
  cases e; exact hp
theorem mpG_k {f : Int → Int} {k : Int} {ps qs : List Pn} (h : ps.map Pn.k = qs.map Pn.k) : mpG f k ps = mpG f k qs := by
  funext i
  obtain ⟨a1, a2, _, a4⟩ := Pn.k_eq (pAt_k h i)
  unfold mpG; rw [a1, a2, a4, pAt_kd h]
theorem mpA_k {k : Int} {ps qs : List Pn} (h : ps.map Pn.k = qs.map Pn.k) : mpA k ps = mpA k qs := by
  funext i
  obtain ⟨_, _, _, a4⟩ := Pn.k_eq (pAt_k h i)
  unfold mpA; rw [a4]
theorem mpA_len {w : World} {sp k : Int} {ps : List Pn} {W H : Nat} (hok : OkPic sp ps W H) (hp : ∀ p ∈ ps, p.Ok w) (i : Nat) : (mpA k ps i).length ≤ 65536 := by
  unfold mpA
  split
  · by_cases hi : i < ps.length
    · rw [(hp _ (pAt_mem hi)).1.1, (hok.at hi).2.2]; exact hok.ok.2.2.2.2
    · have : pAt ps i = ⟨0, 0, none, 0, 0, []⟩ := by simp [pAt, List.getD_eq_getElem?_getD, List.getElem?_eq_none (Nat.le_of_not_lt hi)]
      rw [this]; exact Nat.zero_le _
  · exact Nat.zero_le _
theorem mpG_x {w : World} {sp k : Int} {f : Int → Int} {ps : List Pn} {W H n : Nat} {a : Ac} (hok : OkPic sp ps W H) (hn : n = ps.length) (hp : ∀ p ∈ ps, p.Ok w) (e : a.ds = (List.range n).map (mpG f k ps)) : ∀ q ∈ a.qs, q.xs.length ≤ 65536 := Ac.lens e fun d hd => by
  obtain ⟨i, hi, rfl⟩ := List.mem_map.1 hd
  have hi' : i < ps.length := by rw [← hn]; simpa using hi
  have hl : (pAt ps i).xs.length ≤ 65536 := by rw [(hp _ (pAt_mem hi')).1.1, (hok.at hi').2.2]; exact hok.ok.2.2.2.2
  unfold mpG
  split
  · show (List.map _ _).length ≤ _
    rw [List.length_map]; exact hl
  · exact hl
end Sx
