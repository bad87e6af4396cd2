/- Pictures in new memory, read on; what two pictures put together tell. No program is named here. -/
import Derived.Test.YtiikkhbmhojbaaaKp
namespace Sx
open Go Go.RowKit
set_option linter.unusedVariables false
/-- A load of what is known, by a proof. -/
theorem Ex.loadF {P : Program} {n : Nat} {M : Nat → Prop} {w0 : World} {l : List (Nat × Value)} {L : List Blk} {T : TypeId} {x : Operand} {b o : Nat} {v : Value} (hx : opv l x = some (.pointer (some ⟨b, o, none⟩))) (hA : Ag P T false) (h : ∀ w, Hp M w0 L w → w.cell? ⟨b, o, none⟩ = some v) :
    Ex P n M w0 l L (.load T x) v := fun d ty pos af g a w hF hH => by
  refine run_v ?_
  show (Instr.loadAt T (a.eval x)).run P w = _
  rw [hF.eval hx]
  simp [Instr.loadAt, Instr.sureAddr, loadVar, hA.run, h w hH]
end Sx
namespace Kp
open Go Go.RowKit Sx Go.Proofs.Ytiikkhbmhojbaaa
set_option linter.unusedVariables false
theorem cell1 {w : World} {a : Ac} {Tp Tu : TypeId} {i A : Nat} (h : ∀ k ∈ a.blks Tp Tu, w.heap[k.b]? = some (.cells k.cs.toArray k.T (0, 0))) (hi : i < a.n) (hA : (nqAt a i).xs.length = A) : w.cell? ⟨a.b, i * 3 + 2, none⟩ = some (.slice (some ⟨(nqAt a i).b, 0, none⟩) A (nqAt a i).cap) := by
  have h0 : a.qs ≠ [] := Ac.ne (by omega)
  have e3 := (Ac.sm h0).2.2
  have hr := Rd.of_heap (h _ (List.mem_append_left _ (by rw [e3 Tp]; exact List.mem_singleton.2 rfl)))
  have := hr (i * 3 + 2) (.slice (some ⟨(nqAt a i).b, 0, none⟩) (nqAt a i).xs.length (nqAt a i).cap) (by
    have hl : i * 3 + 2 < (pcs a.pl).length := by rw [pcs_len, Ac.pl_len]; omega
    show (pcs a.pl ++ a.sp)[i * 3 + 2]? = _
    rw [List.getElem?_append_left hl, pcs_at (by rw [Ac.pl_len]; exact hi) (by decide)]
    have e : pAt a.pl i = (nqAt a i).pn := by
      have h' : i < a.qs.length := hi
      simp [pAt, Ac.pl, nqAt, List.getD_eq_getElem?_getD, List.getElem?_eq_getElem h']
    rw [e]; rfl)
  rw [Nat.zero_add, hA] at this
  exact this
theorem cell2 {w : World} {a : Ac} {Tp Tu : TypeId} {i k : Nat} {v : Int} (h : ∀ k ∈ a.blks Tp Tu, w.heap[k.b]? = some (.cells k.cs.toArray k.T (0, 0))) (hi : i < a.n) (hk : k < (nqAt a i).xs.length) (hv : (nqAt a i).xs.getD k 0 = v) : w.cell? ⟨(nqAt a i).b, k, none⟩ = some (.int .u32 v) := by
  have hr := Rd.of_heap (h ((nqAt a i).blk Tu) (List.mem_append_right _ (List.mem_append_left _ (List.mem_map.2 ⟨_, nqAt_mem hi, rfl⟩))))
  have := hr k (.int .u32 v) (by
    show ((nqAt a i).xs.map u32 ++ (nqAt a i).sp)[k]? = _
    rw [List.getElem?_append_left (by simpa using hk), ← hv]
    simp [u32, List.getD_eq_getElem?_getD, List.getElem?_eq_getElem hk])
  rw [Nat.zero_add] at this
  exact this
theorem nq_ds {a : Ac} {n : Nat} {g : Nat → Int × Int × List Int} (h : a.ds = (List.range n).map g) {i : Nat} (hi : i < n) : (nqAt a i).xs = (g i).2.2 ∧ i < a.n := by
  have hl : a.n = n := by rw [← Ac.ds_len, h]; simp
  have h1 : i < a.n := by omega
  have h' : i < a.qs.length := h1
  refine ⟨?_, h1⟩
  have e : pAt a.pl i = (nqAt a i).pn := by simp [pAt, Ac.pl, nqAt, List.getD_eq_getElem?_getD, List.getElem?_eq_getElem h']
  have e2 := (Ac.pl_at h hi).1
  rw [e] at e2
  rw [← e2]; rfl
/-! ### What is known of planes that are told -/
def Gd (W H A n : Nat) (g : Nat → Int × Int × List Int) : Prop := ∀ i, i < n → (g i).1 = (W : Int) ∧ (g i).2.1 = (H : Int) ∧ (g i).2.2.length = A ∧ ∀ x ∈ (g i).2.2, U x
theorem Gd.ok {W H A n : Nat} {g : Nat → Int × Int × List Int} {a : Ac} {sp : Int} (hg : Gd W H A n g) (h : a.ds = (List.range n).map g) (h0 : 0 < n) (h4 : n ≤ 4) (hok : okP W H) (hA : A = W * H) (hs : spc sp n = 0) : OkPic sp a.pl W H :=
  Ac.okpic h h0 h4 hok hs fun i hi => ⟨(hg i hi).1, (hg i hi).2.1, by rw [← hA]; exact (hg i hi).2.2.1⟩
theorem Gd.q {W H A n : Nat} {g : Nat → Int × Int × List Int} {a : Ac} (hg : Gd W H A n g) (h : a.ds = (List.range n).map g) : ∀ q ∈ a.qs, q.xs.length = A ∧ ∀ x ∈ q.xs, U x := fun q hq => by
  have h2 : q.d ∈ a.ds := List.mem_map.2 ⟨q, hq, rfl⟩
  rw [h] at h2
  obtain ⟨i, hi, e⟩ := List.mem_map.1 h2
  have e2 : q.xs = (g i).2.2 := (congrArg (fun d : Int × Int × List Int => d.2.2) e).symm
  rw [e2]
  exact (hg i (by simpa using hi)).2.2
theorem Gd.pa {w : World} {W H A n : Nat} {g : Nat → Int × Int × List Int} {a : Ac} {Tp Tu : TypeId} (hg : Gd W H A n g) (h : a.ds = (List.range n).map g) (hA : A ≤ 65536) (hh : ∀ k ∈ a.blks Tp Tu, w.heap[k.b]? = some (.cells k.cs.toArray k.T (0, 0))) : PnsA w a.ad a.pl :=
  Ac.pa hh fun q hq => ⟨by rw [(hg.q h q hq).1]; exact hA, (hg.q h q hq).2⟩
theorem Gd.x {W H A n : Nat} {g : Nat → Int × Int × List Int} {a : Ac} (hg : Gd W H A n g) (h : a.ds = (List.range n).map g) (hA : A ≤ 65536) : ∀ q ∈ a.qs, q.xs.length ≤ 65536 := fun q hq => by rw [(hg.q h q hq).1]; exact hA
theorem Gd.at {W H A n : Nat} {g : Nat → Int × Int × List Int} {a : Ac} (hg : Gd W H A n g) (h : a.ds = (List.range n).map g) {i : Nat} (hi : i < n) : (pAt a.pl i).xs = (g i).2.2 ∧ (pAt a.pl i).W = (W : Int) ∧ (pAt a.pl i).H = (H : Int) := by
  have e := (Ac.pl_at h hi).1
  obtain ⟨e1, e2, _⟩ := hg i hi
  unfold Pn.d at e
  rw [← e] at e1 e2 ⊢
  exact ⟨rfl, e1, e2⟩
/-- A picture that came in. -/
structure In (w : World) (sp : Int) (ps : List Pn) (W H A n : Nat) : Prop where
  ok : OkPic sp ps W H
  hn : n = ps.length
  hA : A = W * H
  len : ∀ i, i < n → (pAt ps i).xs.length = A
  u : ∀ p ∈ ps, ∀ x ∈ p.xs, U x
theorem In.of {w : World} {sp : Int} {ps : List Pn} {W H n : Nat} (hp : ∀ p ∈ ps, p.Ok w) (hn : n = ps.length) (hok : OkPic sp ps W H) : In w sp ps W H (W * H) n :=
  ⟨hok, hn, rfl, fun i hi => (hp _ (pAt_mem (by omega))).1.1.trans (hok.at (by omega)).2.2, fun p h => (hp p h).1.2.1⟩
theorem In.go {w w' : World} {sp : Int} {ps : List Pn} {W H A n : Nat} {p : Prop} (h : In w sp ps W H A n) (_ : p) : In w' sp ps W H A n := ⟨h.ok, h.hn, h.hA, h.len, h.u⟩
theorem In.us {w : World} {sp : Int} {ps : List Pn} {W H A n : Nat} (h : In w sp ps W H A n) {i k : Nat} (hi : i < n) (hk : k < A) : U ((pAt ps i).xs.getD k 0) :=
  h.u _ (pAt_mem (by rw [← h.hn]; exact hi)) _ (getD_mem (by rw [h.len i hi]; exact hk))
theorem In.map {w : World} {sp : Int} {ps : List Pn} {W H A n : Nat} (h : In w sp ps W H A n) {f : Int → Int} (hf : ∀ x, U x → U (f x)) : Gd W H A n (mpG f (-1) ps) := fun i hi => by
  have hi' : i < ps.length := by rw [← h.hn]; exact hi
  unfold mpG
  rw [if_pos (Or.inl rfl)]
  refine ⟨(h.ok.at hi').1, (h.ok.at hi').2.1, by rw [List.length_map, h.len i hi], fun x hx => ?_⟩
  obtain ⟨y, hy, rfl⟩ := List.mem_map.1 hx
  exact hf y (h.u _ (pAt_mem hi') y hy)
theorem getD_map {f : Int → Int} {xs : List Int} {k : Nat} (hk : k < xs.length) : (xs.map f).getD k 0 = f (xs.getD k 0) := by
  simp [List.getD_eq_getElem?_getD, List.getElem?_eq_getElem hk]
theorem In.map_at {w : World} {sp : Int} {ps : List Pn} {W H A n : Nat} (h : In w sp ps W H A n) {f : Int → Int} {i k : Nat} (hi : i < n) (hk : k < A) : (mpG f (-1) ps i).2.2.length = A ∧ (mpG f (-1) ps i).2.2.getD k 0 = f ((pAt ps i).xs.getD k 0) := by
  unfold mpG
  rw [if_pos (Or.inl rfl)]
  exact ⟨by rw [List.length_map, h.len i hi], getD_map (by rw [h.len i hi]; exact hk)⟩
theorem kmd_u {x : Int} (h : U x) : U (kmd x) := by
  unfold kmd; split
  · exact ⟨by decide, by decide⟩
  · exact h
def mxE (n : Nat) : Int := if n < 3 then 80 else 0
def mxD (ps : List Pn) (n A : Nat) : List (Int × Int × List Int) := if n < 3 then [] else (List.range n).map (trD mxF ps A)
theorem mxE_zero {n : Nat} (h : mxE n = 0) : 3 ≤ n := by
  unfold mxE at h; split at h <;> omega
theorem mxE_r (n : Nat) : 0 ≤ mxE n ∧ mxE n ≤ 1000 := by unfold mxE; split <;> decide
theorem mxD_ok {ps : List Pn} {n A : Nat} (h : 3 ≤ n) : mxD ps n A = (List.range n).map (trD mxF ps A) := by unfold mxD; rw [if_neg (by omega)]
theorem range_at {g : Nat → Int} {A k : Nat} (hk : k < A) : ((List.range A).map g).getD k 0 = g k := by simp [List.getD_eq_getElem?_getD, hk]
theorem tr_len {f : Int → Int → Int → Int × Int × Int} {ps : List Pn} {A i : Nat} (hi : i < 3) : (trD f ps A i).2.2.length = A := by
  unfold trD
  split
  · simp
  · split
    · simp
    · rw [if_pos (by omega)]; simp
/-- The matrix that keeps keeps finite samples' values. -/
theorem keep {w : World} {sp : Int} {ps : List Pn} {W H A n i k : Nat} (h : In w sp ps W H A n) (hn : 3 ≤ n) (hi : i < 3) (hk : k < A) (fx : (pAt ps 0).xs.getD k 0 / 8388608 % 256 ≠ 255) (fy : (pAt ps 1).xs.getD k 0 / 8388608 % 256 ≠ 255) (fz : (pAt ps 2).xs.getD k 0 / 8388608 % 256 ≠ 255) :
    (Fv.ord .f64 (Fv.V ((trD mxF ps A i).2.2.getD k 0)) (Fv.V ((pAt ps i).xs.getD k 0)) != some .eq) = false := by
  have hx := h.us (show 0 < n by omega) hk
  have hy := h.us (show 1 < n by omega) hk
  have hz := h.us (show 2 < n by omega) hk
  have e : i = 0 ∨ i = 1 ∨ i = 2 := by omega
  rcases e with rfl | rfl | rfl
  · unfold trD
    rw [if_pos rfl, range_at hk]
    exact same_V hx fx (at1 hx hy hz fx fy fz)
  · unfold trD
    rw [if_neg (by decide), if_pos rfl, range_at hk]
    exact same_V hy fy (at2 hx hy hz fx fy fz)
  · unfold trD
    rw [if_neg (by decide), if_neg (by decide), if_pos rfl, range_at hk]
    exact same_V hz fz (at3 hx hy hz fx fy fz)
/-! ### Two put together -/
theorem zpX_len (f : Int → Int → Int) (xs ys : List Int) : (zpX f xs ys).length = xs.length := by simp [zpX]
theorem zpX_mem {f : Int → Int → Int} {xs ys : List Int} (hl : ys.length = xs.length) (hx : ∀ x ∈ xs, U x) (hy : ∀ y ∈ ys, U y) (hf : ∀ x y, U x → U y → U (f x y)) : ∀ z ∈ zpX f xs ys, U z := fun z hz => by
  obtain ⟨i, hi, rfl⟩ := List.mem_map.1 hz
  have hi' : i < xs.length := by simpa using hi
  exact hf _ _ (hx _ (getD_mem hi')) (hy _ (getD_mem (by omega)))
theorem Gd.two {W H A n : Nat} {f : Int → Int → Int} {ps qs : List Pn} (hp : ∀ i, i < n → (pAt ps i).W = (W : Int) ∧ (pAt ps i).H = (H : Int) ∧ (pAt ps i).xs.length = A ∧ ∀ x ∈ (pAt ps i).xs, U x) (hq : ∀ i, i < n → (pAt qs i).xs.length = A ∧ ∀ x ∈ (pAt qs i).xs, U x) (hf : ∀ x y, U x → U y → U (f x y)) : Gd W H A n (twG f ps qs) := fun i hi => by
  obtain ⟨h1, h2, h3, h4⟩ := hp i hi
  obtain ⟨h5, h6⟩ := hq i hi
  exact ⟨h1, h2, by show (zpX _ _ _).length = _; rw [zpX_len, h3], zpX_mem (by rw [h5, h3]) h4 h6 hf⟩
theorem Gd.as {W H A n : Nat} {g : Nat → Int × Int × List Int} {a : Ac} (hg : Gd W H A n g) (h : a.ds = (List.range n).map g) : ∀ i, i < n → (pAt a.pl i).W = (W : Int) ∧ (pAt a.pl i).H = (H : Int) ∧ (pAt a.pl i).xs.length = A ∧ ∀ x ∈ (pAt a.pl i).xs, U x := fun i hi => by
  obtain ⟨e1, e2, e3⟩ := hg.at h hi
  obtain ⟨_, _, h3, h4⟩ := hg i hi
  rw [e1]; exact ⟨e2, e3, h3, h4⟩
theorem In.as {w : World} {sp : Int} {ps : List Pn} {W H A n : Nat} (h : In w sp ps W H A n) : ∀ i, i < n → (pAt ps i).W = (W : Int) ∧ (pAt ps i).H = (H : Int) ∧ (pAt ps i).xs.length = A ∧ ∀ x ∈ (pAt ps i).xs, U x := fun i hi => by
  have hi' : i < ps.length := by rw [← h.hn]; exact hi
  exact ⟨(h.ok.at hi').1, (h.ok.at hi').2.1, h.len i hi, h.u _ (pAt_mem hi')⟩
theorem lst_u {x y : Int} (hx : U x) (hy : U y) : U (Bt.lst x y) := Bt.lst_bd hx hy
theorem gst_u {x y : Int} (hx : U x) (hy : U y) : U (Bt.gst x y) := Bt.gst_bd hx hy
/-- One sample everywhere. -/
def one1 (W H : Nat) (s : Int) (_ : Nat) : Int × Int × List Int := ((W : Int), (H : Int), tab W (fun _ _ => s) (W * H))
theorem one1_gd {W H A n : Nat} {s : Int} (hA : A = W * H) (hs : U s) : Gd W H A n (one1 W H s) := fun i _ => ⟨rfl, rfl, by rw [hA]; show (tab W (fun _ _ => s) (W * H)).length = _; exact tab_len _ _ _, fun x hx => by
  obtain ⟨j, _, rfl⟩ := List.mem_map.1 hx
  exact hs⟩
theorem one1_at {W H k i : Nat} {s : Int} (hk : k < W * H) : (one1 W H s i).2.2.getD k 0 = s := by
  show (tab W (fun _ _ => s) (W * H)).getD k 0 = s
  unfold tab
  rw [range_at hk]
theorem zpX_at {f : Int → Int → Int} {xs ys : List Int} {k : Nat} (hk : k < xs.length) : (zpX f xs ys).getD k 0 = f (xs.getD k 0) (ys.getD k 0) := by unfold zpX; rw [range_at hk]
theorem ext_getD {xs ys : List Int} {A : Nat} (hx : xs.length = A) (hy : ys.length = A) (h : ∀ k, k < A → xs.getD k 0 = ys.getD k 0) : xs = ys := by
  apply List.ext_getElem (by omega)
  intro k h1 h2
  have := h k (by omega)
  simpa [List.getD_eq_getElem?_getD, List.getElem?_eq_getElem h1, List.getElem?_eq_getElem h2] using this
/-- Kept between, by two pictures of one sample. -/
theorem clamp {w : World} {sp : Int} {ps : List Pn} {W H A n : Nat} {lo hi_ : Int} {low high c d t : Ac} (h : In w sp ps W H A n) (hl : U lo) (hh : U hi_) (e1 : low.ds = (List.range n).map (one1 W H lo)) (e2 : high.ds = (List.range n).map (one1 W H hi_)) (e3 : c.ds = (List.range n).map (twG Bt.gst ps low.pl)) (e4 : d.ds = (List.range n).map (twG Bt.lst c.pl high.pl)) (e5 : t.ds = (List.range n).map (mpG (fun x => Bt.btw x lo hi_) (-1) ps)) : d.pl.map Pn.d = t.pl.map Pn.d := by
  rw [Ac.pl_d, Ac.pl_d, e4, e5]
  apply List.map_congr_left
  intro i hi'
  have hi : i < n := by simpa using hi'
  have g1 : Gd W H A n (one1 W H lo) := one1_gd h.hA hl
  have g2 : Gd W H A n (one1 W H hi_) := one1_gd h.hA hh
  have gc : Gd W H A n (twG Bt.gst ps low.pl) := Gd.two h.as (fun i hi => (g1.as e1 i hi).2.2) fun x y => gst_u
  obtain ⟨c1, c2, c3⟩ := gc.at e3 hi
  obtain ⟨b1, _, _⟩ := g2.at e2 hi
  obtain ⟨a1, _, _⟩ := g1.at e1 hi
  obtain ⟨p1, p2, p3, p4⟩ := h.as i hi
  unfold twG mpG
  rw [if_pos (Or.inl rfl), c2, c3, p1, p2]
  refine congrArg (fun l => ((W : Int), (H : Int), l)) ?_
  have hcl : (pAt c.pl i).xs.length = A := by rw [c1]; exact (gc i hi).2.2.1
  refine ext_getD (A := A) (by rw [zpX_len, hcl]) (by rw [List.length_map, p3]) fun k hk => ?_
  have hk' : k < W * H := by rw [← h.hA]; exact hk
  rw [zpX_at (by rw [hcl]; exact hk), getD_map (by rw [p3]; exact hk), c1, b1, one1_at hk']
  show Bt.lst ((zpX Bt.gst (pAt ps i).xs (pAt low.pl i).xs).getD k 0) _ = _
  rw [zpX_at (by rw [p3]; exact hk), a1, one1_at hk']
  rfl
/-- What the makers of two tell: errors, planes. -/
def twE (sp sq : Int) (n m W W2 H H2 : Nat) : Int := if n ≠ m ∨ W ≠ W2 ∨ H ≠ H2 then 80 else if sp ≠ sq then 81 else 0
def twD (f : Int → Int → Int) (sp sq : Int) (ps qs : List Pn) (n m W W2 H H2 : Nat) : List (Int × Int × List Int) := if twE sp sq n m W W2 H H2 = 0 then (List.range n).map (twG f ps qs) else []
theorem twE_comm (sp sq : Int) (n m W W2 H H2 : Nat) : twE sp sq n m W W2 H H2 = twE sq sp m n W2 W H2 H := by
  unfold twE; repeat' split
  all_goals omega
theorem twE_r (sp sq : Int) (n m W W2 H H2 : Nat) : 0 ≤ twE sp sq n m W W2 H H2 ∧ twE sp sq n m W W2 H H2 ≤ 1000 := by
  unfold twE; repeat' split
  all_goals omega
theorem twS {sp sq : Int} {n m W W2 H H2 : Nat} : picS (twE sp sq n m W W2 H H2) sp = picS (twE sq sp m n W2 W H2 H) sq := by
  rw [twE_comm sq sp]
  unfold picS
  split
  · rename_i e
    unfold twE at e; split at e
    · cases e
    · split at e
      · cases e
      · omega
  · rfl
theorem twD_comm {w : World} {sp sq : Int} {ps qs : List Pn} {n m W W2 H H2 A B : Nat} (hp : In w sp ps W H A n) (hq : In w sq qs W2 H2 B m) : twD Bt.lst sp sq ps qs n m W W2 H H2 = twD Bt.lst sq sp qs ps m n W2 W H2 H := by
  unfold twD
  rw [twE_comm sq sp]
  split
  · rename_i e
    have hs : n = m ∧ W = W2 ∧ H = H2 := by
      unfold twE at e; split at e
      · cases e
      · omega
    obtain ⟨rfl, rfl, rfl⟩ := hs
    apply List.map_congr_left
    intro i hi'
    have hi : i < n := by simpa using hi'
    obtain ⟨p1, p2, p3, p4⟩ := hp.as i hi
    obtain ⟨q1, q2, q3, q4⟩ := hq.as i hi
    have hAB : A = B := by rw [hp.hA, hq.hA]
    unfold twG
    rw [p1, p2, q1, q2]
    refine congrArg (fun l => ((W : Int), (H : Int), l)) ?_
    refine ext_getD (A := A) (by rw [zpX_len, p3]) (by rw [zpX_len, q3, hAB]) fun k hk => ?_
    rw [zpX_at (by rw [p3]; exact hk), zpX_at (by rw [q3, ← hAB]; exact hk)]
    exact lst_comm (p4 _ (getD_mem (by rw [p3]; exact hk))) (q4 _ (getD_mem (by rw [q3, ← hAB]; exact hk)))
  · rfl
theorem twD_len (f : Int → Int → Int) (sp sq : Int) (ps qs : List Pn) (n m W W2 H H2 : Nat) : ∀ d ∈ twD f sp sq ps qs n m W W2 H H2, ∃ i, i < n ∧ d = twG f ps qs i := fun d hd => by
  unfold twD at hd
  split at hd
  · obtain ⟨i, hi, rfl⟩ := List.mem_map.1 hd
    exact ⟨i, by simpa using hi, rfl⟩
  · cases hd
theorem twD_x {w : World} {f : Int → Int → Int} {sp sq : Int} {ps qs : List Pn} {n m W W2 H H2 A : Nat} {a : Ac} (hp : In w sp ps W H A n) (hA : A ≤ 65536) (e : a.ds = twD f sp sq ps qs n m W W2 H H2) : ∀ q ∈ a.qs, q.xs.length ≤ 65536 := Ac.lens e fun d hd => by
  obtain ⟨i, hi, rfl⟩ := twD_len f sp sq ps qs n m W W2 H H2 d hd
  show (zpX _ _ _).length ≤ _
  rw [zpX_len, (hp.as i hi).2.2.1]; exact hA
theorem twD_n {f : Int → Int → Int} {sp sq : Int} {ps qs : List Pn} {n m W W2 H H2 : Nat} {a : Ac} (e : a.ds = twD f sp sq ps qs n m W W2 H H2) : a.n ≤ n := by
  rw [← Ac.ds_len, e]; unfold twD; split <;> simp
end Kp
