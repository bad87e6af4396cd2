/- Steps for proofs over the machine's code: a frame's known slots (Fr), a heap's known blocks (Hp), and one rule an operation. No program is named here. -/
import Derived.WalkKit
import Derived.Below
import Derived.OrdersHeld
import Derived.Deep.RegionHeld
import Derived.Laws.Rows
import Derived.Deep.LoopGhost
import Derived.LoopN
import Derived.Laws.Tables
import Derived.Laws.Externs
import Derived.KernelRfl
import Derived.Laws.FloatArith
import Derived.Laws.IdiomCopy
import Derived.Laws.Slices
import Derived.Laws.Cover3
namespace Sx
open Go Go.RowKit
set_option linter.unusedVariables false

/-- The known slots of a frame of n slots. -/
def Fr (n : Nat) (l : List (Nat × Value)) (a : Act) : Prop :=
  a.defers = [] ∧ a.tmps.size = n ∧ ∀ t v, l.lookup t = some v → a.tmps[t]? = some v

/-- What an operand holds, out of the known slots. -/
def opv (l : List (Nat × Value)) : Operand → Option Value
  | .tmp t => l.lookup t
  | .const v => some v
  | .func f => some (.func (.func f) #[] #[])
  | .global g => some (.pointer (some ⟨g, 0, none⟩))

theorem Fr.eval {n : Nat} {l : List (Nat × Value)} {a : Act} (h : Fr n l a) {x : Operand} {v : Value} (hx : opv l x = some v) : a.eval x = v := by
  cases x with
  | tmp t =>
    have := h.2.2 t v hx
    simp [Act.eval, Array.getD_eq_getD_getElem?, this]
  | const c => simpa [opv, Act.eval] using hx
  | func f => simpa [opv, Act.eval] using hx
  | global g => simpa [opv, Act.eval] using hx

theorem Fr.put {n : Nat} {l : List (Nat × Value)} {a : Act} (h : Fr n l a) {d : Nat} (hd : d < n) (v : Value) : Fr n ((d, v) :: l) (a.put (some d) v) := by
  refine ⟨h.1, by simpa [Act.put] using h.2.1, fun t u ht => ?_⟩
  simp only [List.lookup] at ht
  simp only [Act.put]
  by_cases e : t = d
  · subst e
    simp at ht
    subst ht
    simp [h.2.1, hd]
  · have hb : (t == d) = false := by simpa using e
    rw [hb] at ht
    simp only [Array.getElem?_setIfInBounds]
    rw [if_neg (fun x => e x.symm)]
    exact h.2.2 t u ht

/-- Fewer slots are known. -/
def sub (l l' : List (Nat × Value)) : Prop := ∀ t v, l'.lookup t = some v → l.lookup t = some v
theorem Fr.sub {n : Nat} {l l' : List (Nat × Value)} {a : Act} (h : Fr n l a) (hs : Sx.sub l l') : Fr n l' a := ⟨h.1, h.2.1, fun t v ht => h.2.2 t v (hs t v ht)⟩
theorem sub_nil (l : List (Nat × Value)) : sub l [] := fun t v h => by simp [List.lookup] at h
theorem sub_cons {l l' : List (Nat × Value)} {t : Nat} {v : Value} (h : l.lookup t = some v) (hs : sub l l') : sub l ((t, v) :: l') := fun u x hu => by
  simp only [List.lookup] at hu
  by_cases e : u = t
  · subst e; simp at hu; subst hu; exact h
  · have hb : (u == t) = false := by simpa using e
    rw [hb] at hu; exact hs u x hu

/-- A known block: its number, all its cells, its elements' type; o: it may be written. No cell is frozen. -/
structure Blk where
  b : Nat
  cs : List Value
  T : TypeId
  o : Bool
/-- Two blocks of which one may be written are two. -/
def Two (x y : Blk) : Prop := (x.o || y.o) = true → x.b ≠ y.b
theorem Two.symm {x y : Blk} (h : Two x y) : Two y x := fun e => fun q => h (by rw [Bool.or_comm]; exact e) q.symm

/-- Below the heap's size all blocks but those of M are as they were. -/
structure Keep (M : Nat → Prop) (w w' : World) : Prop where
  os : w'.os = w.os
  tape : w'.tape = w.tape
  output : w'.output = w.output
  size : w.heap.size ≤ w'.heap.size
  block : ∀ k, k < w.heap.size → ¬ M k → w'.heap[k]? = w.heap[k]?

theorem Keep.refl (M : Nat → Prop) (w : World) : Keep M w w := ⟨rfl, rfl, rfl, Nat.le_refl _, fun _ _ _ => rfl⟩
theorem Keep.trans {M M' : Nat → Prop} {w1 w2 w3 : World} (h : Keep M w1 w2) (k : Keep M' w2 w3) (hM : ∀ b, b < w1.heap.size → M' b → M b) : Keep M w1 w3 :=
  ⟨k.os.trans h.os, k.tape.trans h.tape, k.output.trans h.output, Nat.le_trans h.size k.size, fun i hi hn =>
    (k.block i (Nat.lt_of_lt_of_le hi h.size) (fun hm => hn (hM i hi hm))).trans (h.block i hi hn)⟩
def None : Nat → Prop := fun _ => False
theorem Keep.below {w w' : World} (h : Keep None w w') : Below w.heap.size w w' := ⟨h.os, h.tape, h.output, h.size, fun k hk => h.block k hk (fun x => x)⟩
theorem Keep.of_below {w w' : World} (h : Below w.heap.size w w') : Keep None w w' := ⟨h.os, h.tape, h.output, h.size, fun k hk _ => h.block k hk⟩

/-- The heap: what it kept of w0, and the blocks that are known. -/
def Hp (M : Nat → Prop) (w0 : World) (L : List Blk) (w : World) : Prop :=
  Keep M w0 w ∧ (∀ k ∈ L, w.heap[k.b]? = some (.cells k.cs.toArray k.T (0, 0)) ∧ (k.o = true → k.b < w0.heap.size → M k.b)) ∧ L.Pairwise Two

section
variable {M : Nat → Prop} {w0 : World} {L : List Blk} {w : World}

theorem Hp.start (M : Nat → Prop) (w : World) : Hp M w [] w := ⟨Keep.refl _ _, fun _ h => by simp at h, List.Pairwise.nil⟩
theorem Hp.keep (h : Hp M w0 L w) : Keep M w0 w := h.1
theorem Hp.drew (h : Hp M w0 L w) : Hp M w0 L { w with drawn := w.drawn + 1 } := ⟨⟨h.1.os, h.1.tape, h.1.output, h.1.size, h.1.block⟩, h.2.1, h.2.2⟩
theorem Hp.sub {L' : List Blk} (h : Hp M w0 L w) (hs : L'.Sublist L) : Hp M w0 L' w := ⟨h.1, fun k hk => h.2.1 k (hs.subset hk), h.2.2.sublist hs⟩
theorem Hp.get (h : Hp M w0 L w) {i : Nat} {k : Blk} (hk : L[i]? = some k) : w.heap[k.b]? = some (.cells k.cs.toArray k.T (0, 0)) := (h.2.1 k (List.mem_of_getElem? hk)).1
theorem heap_lt {w : World} {b : Nat} {o : Obj} (h : w.heap[b]? = some o) : b < w.heap.size := (Array.getElem?_eq_some_iff.1 h).1
theorem Hp.lt (h : Hp M w0 L w) {k : Blk} (hk : k ∈ L) : k.b < w.heap.size := heap_lt (h.2.1 k hk).1
theorem alloc_heap_new (w : World) (o : Obj) : (w.alloc o).heap[w.heap.size]? = some o := by
  show (w.heap.push o)[w.heap.size]? = some o
  simp
theorem alloc_size (w : World) (o : Obj) : (w.alloc o).heap.size = w.heap.size + 1 := by
  show (w.heap.push o).size = _
  simp
theorem alloc_heap_old (w : World) (o : Obj) {k : Nat} (h : k < w.heap.size) : (w.alloc o).heap[k]? = w.heap[k]? := Below.heap_alloc w o k h

/-- A new block. -/
theorem Hp.alloc (h : Hp M w0 L w) (cs : List Value) (T : TypeId) : Hp M w0 (⟨w.heap.size, cs, T, true⟩ :: L) (w.alloc (.cells cs.toArray T)) := by
  refine ⟨⟨h.1.os, h.1.tape, h.1.output, by have := h.1.size; rw [alloc_size]; omega, fun k hk hn => ?_⟩, ?_, ?_⟩
  · rw [alloc_heap_old w _ (by have := h.1.size; omega)]
    exact h.1.block k hk hn
  · intro k hk
    rcases List.mem_cons.1 hk with rfl | hk
    · exact ⟨by simpa using alloc_heap_new w (.cells cs.toArray T), fun _ hlt => absurd h.1.size (by simp at hlt; omega)⟩
    · refine ⟨?_, (h.2.1 k hk).2⟩
      rw [alloc_heap_old w _ (h.lt hk)]
      exact (h.2.1 k hk).1
  · refine List.Pairwise.cons (fun k hk _ => ?_) h.2.2
    have := h.lt hk
    show w.heap.size ≠ k.b
    omega

/-- A block's cells turn. -/
theorem Hp.turn (h : Hp M w0 L w) {w' : World} {i : Nat} {k : Blk} (hk : L[i]? = some k) (hown : k.o = true) (cs : List Value)
    (hsz : w'.heap.size = w.heap.size) (hos : w'.os = w.os) (htape : w'.tape = w.tape) (hout : w'.output = w.output)
    (hb : w'.heap[k.b]? = some (.cells cs.toArray k.T (0, 0))) (ho : ∀ j, j ≠ k.b → w'.heap[j]? = w.heap[j]?) : Hp M w0 (L.set i { k with cs := cs }) w' := by
  have hkm := List.mem_of_getElem? hk
  obtain ⟨hi, hgi⟩ := List.getElem?_eq_some_iff.1 hk
  have hne : ∀ j : Nat, ∀ x, L[j]? = some x → j ≠ i → x.b ≠ k.b := by
    intro j x hx hji
    obtain ⟨hj, hgj⟩ := List.getElem?_eq_some_iff.1 hx
    have hp := List.pairwise_iff_getElem.1 h.2.2
    rcases Nat.lt_or_ge j i with hlt | hge
    · have := hp j i hj hi hlt
      rw [hgj, hgi] at this; exact this (by simp [hown])
    · have := hp i j hi hj (by omega)
      rw [hgj, hgi] at this; exact fun e => this (by simp [hown]) e.symm
  refine ⟨⟨hos.trans h.1.os, htape.trans h.1.tape, hout.trans h.1.output, by rw [hsz]; exact h.1.size, fun j hj hn => ?_⟩, ?_, ?_⟩
  · have hjk : j ≠ k.b := fun e => hn (by rw [e] at hj ⊢; exact (h.2.1 k hkm).2 hown hj)
    rw [ho j hjk]; exact h.1.block j hj hn
  · intro x hx
    obtain ⟨j, hj⟩ := List.mem_iff_getElem?.1 hx
    rw [List.getElem?_set] at hj
    by_cases e : i = j
    · subst e
      simp only [hi, if_true] at hj
      obtain rfl := Option.some.inj hj
      exact ⟨hb, (h.2.1 k hkm).2⟩
    · rw [if_neg e] at hj
      have hxm := List.mem_of_getElem? hj
      refine ⟨?_, (h.2.1 x hxm).2⟩
      rw [ho x.b (hne j x hj (fun q => e q.symm))]
      exact (h.2.1 x hxm).1
  · rw [List.pairwise_iff_getElem]
    intro p q hp hq hpq
    have hp' : p < L.length := by simpa using hp
    have hq' : q < L.length := by simpa using hq
    have hb' : ∀ r (hr : r < (L.set i { k with cs := cs }).length), ((L.set i { k with cs := cs })[r]).b = (L[r]'(by simpa using hr)).b ∧ ((L.set i { k with cs := cs })[r]).o = (L[r]'(by simpa using hr)).o := by
      intro r hr
      rw [List.getElem_set]
      split
      · rename_i e; subst e; rw [hgi]; exact ⟨rfl, rfl⟩
      · exact ⟨rfl, rfl⟩
    have h0 := List.pairwise_iff_getElem.1 h.2.2 p q hp' hq' hpq
    unfold Two at h0 ⊢
    rw [(hb' p hp).1, (hb' q hq).1, (hb' p hp).2, (hb' q hq).2]
    exact h0

/-- Behind a call that keeps all that was there. -/
theorem Hp.later (h : Hp M w0 L w) {w' : World} (hb : Below w.heap.size w w') : Hp M w0 L w' :=
  ⟨h.1.trans (Keep.of_below hb) (fun _ _ x => x.elim), fun k hk => ⟨(hb.block k.b (h.lt hk)).trans (h.2.1 k hk).1, (h.2.1 k hk).2⟩, h.2.2⟩

/-- A block is known besides: a new one of a callee's, or one that is only read. -/
theorem Hp.learn (h : Hp M w0 L w) {b : Nat} {cs : List Value} {T : TypeId} {o : Bool} (hb : w.heap[b]? = some (.cells cs.toArray T (0, 0))) (hn : o = true → b < w0.heap.size → M b) (hd : ∀ k ∈ L, Two ⟨b, cs, T, o⟩ k) : Hp M w0 (⟨b, cs, T, o⟩ :: L) w := by
  refine ⟨h.1, fun k hk => ?_, List.Pairwise.cons (fun k hk => hd k hk) h.2.2⟩
  rcases List.mem_cons.1 hk with rfl | hk
  · exact ⟨hb, hn⟩
  · exact h.2.1 k hk

/-- Behind a call that keeps all that was there and made a block. -/
theorem Hp.made (h : Hp M w0 L w) {w' : World} (hb : Below w.heap.size w w') {b : Nat} {cs : List Value} {T : TypeId} (hc : w'.heap[b]? = some (.cells cs.toArray T (0, 0))) (hn : w.heap.size ≤ b) : Hp M w0 (⟨b, cs, T, true⟩ :: L) w' :=
  (h.later hb).learn hc (fun _ hlt => absurd h.1.size (by omega)) (fun k hk _ => by have := h.lt hk; show b ≠ k.b; omega)

theorem Hp.cell (h : Hp M w0 L w) {i : Nat} {b : Nat} {cs : List Value} {T : TypeId} {o : Bool} (hk : L[i]? = some ⟨b, cs, T, o⟩) (j : Nat) : w.cell? ⟨b, j, none⟩ = cs[j]? := by
  have := h.get hk
  simp only at this
  simp [World.cell?, this]
theorem Hp.frozen (h : Hp M w0 L w) {i : Nat} {b : Nat} {cs : List Value} {T : TypeId} {o : Bool} (hk : L[i]? = some ⟨b, cs, T, o⟩) (j : Nat) : w.frozen? ⟨b, j, none⟩ = false := by
  have := h.get hk
  simp only at this
  simp [World.frozen?, this]
theorem cell_lt {w : World} {p : Addr} {v : Value} (h : w.cell? p = some v) : p.block < w.heap.size := by
  unfold World.cell? at h
  cases e : w.heap[p.block]? with
  | none => rw [e] at h; simp at h
  | some o => exact heap_lt e
theorem Hp.old (h : Hp M w0 L w) {p : Addr} {v : Value} (hc : w0.cell? p = some v) (hM : ¬ M p.block) : w.cell? p = some v := by
  rw [World.cell?_of_block (h.1.block p.block (cell_lt hc) hM)]; exact hc
end

theorem ulN {L : List Blk} : List.Sublist [] L := List.nil_sublist _
theorem ulR {L : List Blk} : List.Sublist L L := List.Sublist.refl _
theorem ulC {k : Blk} {L L' : List Blk} (h : List.Sublist L L') : List.Sublist (k :: L) (k :: L') := List.Sublist.cons_cons _ h
theorem ulS {k : Blk} {L L' : List Blk} (h : List.Sublist L L') : List.Sublist L (k :: L') := List.Sublist.cons _ h

/-! ### One operation -/
section
variable {P : Program} {ops : Array Oper} {Q : Exit → Act → World → Prop} {n : Nat} {M : Nat → Prop} {w0 : World} {l : List (Nat × Value)} {L : List Blk}

/-- In every state that is known so the operation tells v and does nothing else. -/
def Ex (P : Program) (n : Nat) (M : Nat → Prop) (w0 : World) (l : List (Nat × Value)) (L : List Blk) (op : Op) (v : Value) : Prop :=
  ∀ d ty pos after g a w, Fr n l a → Hp M w0 L w → (execOp a.eval ⟨d, op, ty, pos, after, g⟩).run P w = .ok (.value v) w

/-- From every state that is known so the operation comes to one that is known so, for some x. -/
def Stp (P : Program) (Q : Exit → Act → World → Prop) (n : Nat) (M : Nat → Prop) (w0 : World) (l : List (Nat × Value)) (L : List Blk) (o : Oper) {σ : Type} (p : σ → Prop) (l' : σ → List (Nat × Value)) (L' : σ → List Blk) : Prop :=
  ∀ K : Act → World → Prop, (∀ x, p x → ∀ a w, Fr n (l' x) a → Hp M w0 (L' x) w → K a w) → ∀ a w, Fr n l a → Hp M w0 L w → o.wp P a w K Q

/-- The rest of a region, in the order of the text. -/
abbrev GL (P : Program) (ops : Array Oper) (Q : Exit → Act → World → Prop) (n : Nat) (M : Nat → Prop) (w0 : World) (l : List (Nat × Value)) (L : List Blk) (rest : List Oper) : Prop :=
  ∀ a w, Fr n l a → Hp M w0 L w → wpList P ops Q rest a w
/-- The rest of a region that draws its order; LS holds all along. -/
abbrev GH (P : Program) (ops : Array Oper) (Q : Exit → Act → World → Prop) (n : Nat) (M : Nat → Prop) (w0 : World) (LS : List Blk) (l : List (Nat × Value)) (L : List Blk) (fuel : Nat) (listed : Array Bool) : Prop :=
  ∀ a w, Fr n l a → Hp M w0 L w → wpAnyH P .any ops Q (Hp M w0 LS) fuel listed a w
/-- A piece of code. -/
abbrev GC (P : Program) (Q : Exit → Act → World → Prop) (n : Nat) (M : Nat → Prop) (w0 : World) (l : List (Nat × Value)) (L : List Blk) (c : Code) : Prop :=
  ∀ a w, Fr n l a → Hp M w0 L w → c.wp P Q a w

theorem Ex.wp {d : Nat} {op : Op} {ty : TypeId} {pos : String} {after : Array Edge} {g : Option (Nat × Bool)} {v : Value} (h : Ex P n M w0 l L op v) (hd : d < n) :
    Stp P Q n M w0 l L ⟨some d, op, ty, pos, after, g⟩ (σ := Unit) (fun _ => True) (fun _ => (d, v) :: l) (fun _ => L) := fun K hK a w hF hH => by
  unfold Oper.wp
  rw [h _ _ _ _ _ a w hF hH]
  exact hK () trivial _ _ (hF.put hd v) hH

theorem GL.val {d : Nat} {op : Op} {ty : TypeId} {pos : String} {after : Array Edge} {rest : List Oper} {v : Value} (h : Ex P n M w0 l L op v) (hd : d < n)
    (K : GL P ops Q n M w0 ((d, v) :: l) L rest) : GL P ops Q n M w0 l L (⟨some d, op, ty, pos, after, none⟩ :: rest) := fun a w hF hH =>
  wpList_plain rfl fun _ hK => h.wp hd _ (fun _ _ a w hF hH => hK _ _ (K a w hF hH)) a w hF hH

theorem GL.step {σ : Type} {p : σ → Prop} {l' : σ → List (Nat × Value)} {L' : σ → List Blk} {d : Option Nat} {op : Op} {ty : TypeId} {pos : String} {after : Array Edge} {rest : List Oper}
    (h : Stp P Q n M w0 l L ⟨d, op, ty, pos, after, none⟩ p l' L') (K : ∀ x, p x → GL P ops Q n M w0 (l' x) (L' x) rest) : GL P ops Q n M w0 l L (⟨d, op, ty, pos, after, none⟩ :: rest) := fun a w hF hH =>
  wpList_plain rfl fun _ hK => h _ (fun x hx a w hF hH => hK _ _ (K x hx a w hF hH)) a w hF hH

theorem yielded_of {a : Act} (hF : Fr n l a) {j tj : Nat} {b : Bool} (hj : (ops[j]?).bind (·.dst) = some tj) (ht : l.lookup tj = some (.bool b)) : yielded ops a.tmps j = some b := by
  unfold yielded
  rw [hj]
  simp only [Option.bind_some, hF.2.2 _ _ ht]

/-- A guarded operation that is wanted. -/
theorem GL.stepG {σ : Type} {p : σ → Prop} {l' : σ → List (Nat × Value)} {L' : σ → List Blk} {d : Option Nat} {op : Op} {ty : TypeId} {pos : String} {after : Array Edge} {rest : List Oper} {j tj : Nat} {b : Bool}
    (hj : (ops[j]?).bind (·.dst) = some tj) (ht : l.lookup tj = some (.bool b))
    (h : Stp P Q n M w0 l L ⟨d, op, ty, pos, after, some (j, b)⟩ p l' L') (K : ∀ x, p x → GL P ops Q n M w0 (l' x) (L' x) rest) : GL P ops Q n M w0 l L (⟨d, op, ty, pos, after, some (j, b)⟩ :: rest) := fun a w hF hH =>
  wpList_step fun _ hK => by
    rw [if_pos (by simp [Region.wanted, yielded_of hF hj ht])]
    exact h _ (fun x hx a w hF hH => hK _ _ (K x hx a w hF hH)) a w hF hH
/-- A guarded operation that is passed over. -/
theorem GL.skipG {d : Nat} {op : Op} {ty : TypeId} {pos : String} {after : Array Edge} {rest : List Oper} {j tj : Nat} {b c : Bool}
    (hj : (ops[j]?).bind (·.dst) = some tj) (ht : l.lookup tj = some (.bool b)) (hne : (b == c) = false) (hd : d < n)
    (K : GL P ops Q n M w0 ((d, undef) :: l) L rest) : GL P ops Q n M w0 l L (⟨some d, op, ty, pos, after, some (j, c)⟩ :: rest) := fun a w hF hH =>
  wpList_step fun _ hK => by
    rw [if_neg (by simpa [Region.wanted, yielded_of hF hj ht] using hne)]
    exact hK _ _ (K _ _ (hF.put hd undef) hH)

/-- A guarded operation whose guard was passed over itself. -/
theorem GL.skipU {d : Nat} {op : Op} {ty : TypeId} {pos : String} {after : Array Edge} {rest : List Oper} {j tj : Nat} {c : Bool}
    (hj : (ops[j]?).bind (·.dst) = some tj) (ht : l.lookup tj = some undef) (hd : d < n)
    (K : GL P ops Q n M w0 ((d, undef) :: l) L rest) : GL P ops Q n M w0 l L (⟨some d, op, ty, pos, after, some (j, c)⟩ :: rest) := fun a w hF hH =>
  wpList_step fun _ hK => by
    have hy : yielded ops a.tmps j = none := by
      unfold yielded
      rw [hj]
      simp only [Option.bind_some, hF.2.2 _ _ ht]
      rfl
    rw [if_neg (by simp [Region.wanted, hy])]
    exact hK _ _ (K _ _ (hF.put hd undef) hH)

/-- A region that draws: number i, which tells its value whatever came up before it, is taken first. -/
theorem GH.take {LS : List Blk} {fuel : Nat} {listed : Array Bool} (i : Nat) {d : Nat} {op : Op} {ty : TypeId} {pos : String} {after : Array Edge} {v : Value} (hi : ops[i]? = some ⟨some d, op, ty, pos, after, none⟩)
    (hs : Region.noSelect ops = true) (hf : Region.free .any ops listed i = true) (hr : (Region.ready .any ops listed).contains i = true)
    (hQ : ∀ (c : List PanicEntry) (a : Act) (w : World), Q (.panic c) (a.put (some d) v) w → Q (.panic c) a w)
    (hE : Ex P n M w0 l LS op v) (hL : LS.Sublist L) (hd : d < n)
    (K : GH P ops Q n M w0 LS ((d, v) :: l) L fuel (listed.setIfInBounds i true)) : GH P ops Q n M w0 LS l L (fuel + 1) listed := fun a w hF hH =>
  wpAnyH_take hi hs hf hr hQ (Or.inl ⟨by simp [Region.wanted], fun w hw => hE _ _ _ _ _ a w hF hw⟩) (hH.sub hL) (K _ _ (hF.put hd v) hH)

theorem GH.one {LS : List Blk} {fuel : Nat} {listed : Array Bool} {σ : Type} {p : σ → Prop} {l' : σ → List (Nat × Value)} {L' : σ → List Blk} (i : Nat) {d : Option Nat} {op : Op} {ty : TypeId} {pos : String} {after : Array Edge}
    (hi : ops[i]? = some ⟨d, op, ty, pos, after, none⟩) (hr : Region.ready .any ops listed = [i])
    (h : Stp P Q n M w0 l L ⟨d, op, ty, pos, after, none⟩ p l' L') (hL : ∀ x, LS.Sublist (L' x))
    (K : ∀ x, p x → GH P ops Q n M w0 LS (l' x) (L' x) fuel (listed.setIfInBounds i true)) : GH P ops Q n M w0 LS l L (fuel + 1) listed := fun a w hF hH =>
  wpAnyH_all hr (by simp) fun j hj => by
    obtain rfl : j = i := by simpa using hj
    unfold wpOp
    simp only [hi]
    rw [if_pos (by simp [Region.wanted])]
    exact Or.inl (h _ (fun x hx a w hF hH => ⟨hH.sub (hL x), K x hx a w hF hH⟩) a w hF hH)

/-- Two may come up: both ways. -/
theorem GH.two {LS : List Blk} {fuel : Nat} {listed : Array Bool} {σ τ : Type} {p : σ → Prop} {l' : σ → List (Nat × Value)} {L' : σ → List Blk} {q : τ → Prop} {m' : τ → List (Nat × Value)} {N' : τ → List Blk} (i k : Nat) {d : Option Nat} {op : Op} {ty : TypeId} {pos : String} {after : Array Edge}
    {d2 : Option Nat} {op2 : Op} {ty2 : TypeId} {pos2 : String} {after2 : Array Edge}
    (hi : ops[i]? = some ⟨d, op, ty, pos, after, none⟩) (hk : ops[k]? = some ⟨d2, op2, ty2, pos2, after2, none⟩) (hr : Region.ready .any ops listed = [i, k])
    (h : Stp P Q n M w0 l L ⟨d, op, ty, pos, after, none⟩ p l' L') (hL : ∀ x, LS.Sublist (L' x))
    (h2 : Stp P Q n M w0 l L ⟨d2, op2, ty2, pos2, after2, none⟩ q m' N') (hL2 : ∀ x, LS.Sublist (N' x))
    (K : ∀ x, p x → GH P ops Q n M w0 LS (l' x) (L' x) fuel (listed.setIfInBounds i true))
    (K2 : ∀ x, q x → GH P ops Q n M w0 LS (m' x) (N' x) fuel (listed.setIfInBounds k true)) : GH P ops Q n M w0 LS l L (fuel + 1) listed := fun a w hF hH =>
  wpAnyH_all hr (by simp) fun j hj => by
    have hj' : j = i ∨ j = k := by simpa using hj
    rcases hj' with rfl | rfl
    · unfold wpOp
      simp only [hi]
      rw [if_pos (by simp [Region.wanted])]
      exact Or.inl (h _ (fun x hx a w hF hH => ⟨hH.sub (hL x), K x hx a w hF hH⟩) a w hF hH)
    · unfold wpOp
      simp only [hk]
      rw [if_pos (by simp [Region.wanted])]
      exact Or.inl (h2 _ (fun x hx a w hF hH => ⟨hH.sub (hL2 x), K2 x hx a w hF hH⟩) a w hF hH)

theorem GH.done {LS : List Blk} {fuel : Nat} {listed : Array Bool} (hr : Region.ready .any ops listed = []) (K : ∀ a w, Fr n l a → Hp M w0 L w → Q .normal a w) : GH P ops Q n M w0 LS l L fuel listed := fun a w hF hH =>
  wpAnyH_done hr (K a w hF hH) fuel

/-! ### Code -/
theorem GL.nil (K : ∀ a w, Fr n l a → Hp M w0 L w → Q .normal a w) : GL P ops Q n M w0 l L [] := K
theorem GC.seq {x y : Code} (K : GC P (Exit.then (y.wp P Q) Q) n M w0 l L x) : GC P Q n M w0 l L (.seq x y) := fun a w hF hH => wp_seq (K a w hF hH)
theorem GC.region {id : Nat} {os : List Oper} (K : GL P os.toArray Q n M w0 l L os) : GC P Q n M w0 l L (.region id os.toArray false) := fun a w hF hH => wp_region_lit (K a w hF hH)
theorem GC.draw {id : Nat} {os : Array Oper} (LS : List Blk) (hm : P.follows .mixedOrders = true) {fuel : Nat} {listed : Array Bool} (h1 : os.size = fuel) (h2 : Array.replicate os.size false = listed)
    (K : GH P os Q n M w0 LS l L fuel listed) : GC P Q n M w0 l L (.region id os true) := fun a w hF hH => wp_region_held hm (by rw [h2, h1]; exact K a _ hF hH.drew)
theorem GC.cond {c : Operand} {x y : Code} {b : Bool} (hc : opv l c = some (.bool b)) (ht : b = true → GC P Q n M w0 l L x) (hf : b = false → GC P Q n M w0 l L y) : GC P Q n M w0 l L (.cond c x y) := fun a w hF hH =>
  wp_cond_split (hF.eval hc) (fun e => ht e a w hF hH) (fun e => hf e a w hF hH)
theorem GC.skip (K : ∀ a w, Fr n l a → Hp M w0 L w → Q .normal a w) : GC P Q n M w0 l L .skip := fun a w hF hH => wp_skip (K a w hF hH)
theorem GC.exit {id : Nat} (K : ∀ a w, Fr n l a → Hp M w0 L w → Q (.exit id) a w) : GC P Q n M w0 l L (.exit id) := fun a w hF hH => wp_exit (K a w hF hH)
theorem GC.ret (K : ∀ a w, Fr n l a → Hp M w0 L w → Q .ret a w) : GC P Q n M w0 l L .ret := fun a w hF hH => wp_ret (K a w hF hH)
theorem GC.block {id : Nat} {c : Code} (K : GC P (Exit.inBlock id Q) n M w0 l L c) : GC P Q n M w0 l L (.block id c) := fun a w hF hH => wp_block (K a w hF hH)
theorem GC.sub {c : Code} {l' : List (Nat × Value)} {L' : List Blk} (hs : Sx.sub l l') (hL : L'.Sublist L) (K : GC P Q n M w0 l' L' c) : GC P Q n M w0 l L c := fun a w hF hH => K a w (hF.sub hs) (hH.sub hL)

/-- What a loop's round comes to: the next head, lower. -/
def Head (n : Nat) (M : Nat → Prop) (w0 : World) {σ : Type} (p : σ → Prop) (l' : σ → List (Nat × Value)) (L' : σ → List Blk) (m : σ → Nat) (s : σ) : Act → World → Prop :=
  fun a w => ∃ s', p s' ∧ m s' < m s ∧ Fr n (l' s') a ∧ Hp M w0 (L' s') w
theorem GC.loop {σ : Type} (p : σ → Prop) (l' : σ → List (Nat × Value)) (L' : σ → List Blk) (m : σ → Nat) (s0 : σ) {c : Code} (h0 : p s0) (hl : Sx.sub l (l' s0)) (hL : (L' s0).Sublist L)
    (round : ∀ s, p s → GC P (Exit.then (Head n M w0 p l' L' m s) Q) n M w0 (l' s) (L' s) c) : GC P Q n M w0 l L (.loop c) := fun a w hF hH => by
  refine wp_loop_ghost (fun N a w => ∃ s, p s ∧ m s = N ∧ Fr n (l' s) a ∧ Hp M w0 (L' s) w) (m s0) ⟨s0, h0, rfl, hF.sub hl, hH.sub hL⟩ ?_
  rintro N a w ⟨s, hp, rfl, hF, hH⟩
  refine Code.wp_mono (fun e a w hq => ?_) (round s hp a w hF hH)
  cases e with
  | normal =>
    obtain ⟨s', hp', hlt, hF', hH'⟩ := hq
    exact ⟨m s', hlt, s', hp', rfl, hF', hH'⟩
  | exit id => exact hq
  | goto l => exact hq
  | ret => exact hq
  | panic ch => exact hq
  | outgrown => exact hq
theorem Head.mk {σ : Type} {p : σ → Prop} {l' : σ → List (Nat × Value)} {L' : σ → List Blk} {m : σ → Nat} {s : σ} (s' : σ) (hp : p s') (hm : m s' < m s) (hl : Sx.sub l (l' s')) (hL : (L' s').Sublist L) :
    ∀ a w, Fr n l a → Hp M w0 L w → Head n M w0 p l' L' m s a w := fun _ _ hF hH => ⟨s', hp, hm, hF.sub hl, hH.sub hL⟩

/-! ### A call's begin and end -/
def Args (args : Array Value) (l : List (Nat × Value)) : Prop := ∀ t v, l.lookup t = some v → args[t]? = some v
theorem Args.nil (args : Array Value) : Args args [] := fun t v h => by simp [List.lookup] at h
theorem Args.cons {args : Array Value} {l : List (Nat × Value)} {t : Nat} {v : Value} (h : args[t]? = some v) (hs : Args args l) : Args args ((t, v) :: l) := fun u x hu => by
  simp only [List.lookup] at hu
  by_cases e : u = t
  · subst e; simp at hu; subst hu; exact h
  · have hb : (u == t) = false := by simpa using e
    rw [hb] at hu; exact hs u x hu
theorem enter {f : FuncId} {fn : Func} {c : Code} {args : Array Value} {R : Ending → World → Prop} (hf : P.funcs[f]? = some fn) (hb : fn.body = some c) (hn : args.size + (fn.ntmps - args.size) = n) (hargs : Args args l)
    {w : World} (hH : Hp M w L w) (h : GC P (bodyPost P fn R) n M w l L c) : Calls P f args w R := by
  refine calls_of_wp hf hb (h _ w ⟨rfl, by simpa using hn, fun t v ht => ?_⟩ hH)
  have := hargs t v ht
  have hlt := (Array.getElem?_eq_some_iff.1 this).1
  simp only [Array.getElem?_append, hlt, if_true]
  exact this

/-- A result variable's value. -/
def rvs (a : Act) : ResultVar → Sem Value
  | .tmp t => pure (a.tmps.getD t undef)
  | .cell p t => do loadVar t (← asAddr (a.tmps.getD p undef))
theorem results_eq (fn : Func) (a : Act) : results fn a.tmps = (do let vs ← fn.results.mapM (rvs a); pure (if h : vs.size = 1 then vs[0] else .tuple vs)) := by
  have e : (fun r => match r with | .tmp t => pure (a.tmps.getD t undef) | .cell p t => do loadVar t (← asAddr (a.tmps.getD p undef)) : ResultVar → Sem Value) = rvs a := by
    funext r; cases r <;> rfl
  unfold results
  rw [← e]
  rfl
/-- A result variable tells v. -/
def Rv (P : Program) (n : Nat) (M : Nat → Prop) (w0 : World) (l : List (Nat × Value)) (L : List Blk) (r : ResultVar) (v : Value) : Prop :=
  ∀ a w, Fr n l a → Hp M w0 L w → (rvs a r).run P w = .ok v w
theorem Rv.tmp {t : Nat} {v : Value} (h : l.lookup t = some v) : Rv P n M w0 l L (.tmp t) v := fun a w hF hH => by
  simp [rvs, hF.2.2 _ _ h]
theorem GC.ret1 {fn : Func} {R : Ending → World → Prop} {r : ResultVar} {v : Value} (hr : fn.results = #[r]) (h : Rv P n M w0 l L r v) (hR : ∀ w, Hp M w0 L w → R (.returned v) w) :
    ∀ a w, Fr n l a → Hp M w0 L w → bodyPost P fn R .ret a w := fun a w hF hH => by
  refine ⟨hF.1, v, ?_, hR w hH⟩
  rw [results_eq, hr]
  simp [h a w hF hH]
theorem GC.ret2 {fn : Func} {R : Ending → World → Prop} {r1 r2 : ResultVar} {v1 v2 : Value} (hr : fn.results = #[r1, r2]) (h1 : Rv P n M w0 l L r1 v1) (h2 : Rv P n M w0 l L r2 v2) (hR : ∀ w, Hp M w0 L w → R (.returned (.tuple #[v1, v2])) w) :
    ∀ a w, Fr n l a → Hp M w0 L w → bodyPost P fn R .ret a w := fun a w hF hH => by
  refine ⟨hF.1, _, ?_, hR w hH⟩
  rw [results_eq, hr]
  simp [h1 a w hF hH, h2 a w hF hH]
theorem GC.ret3 {fn : Func} {R : Ending → World → Prop} {r1 r2 r3 : ResultVar} {v1 v2 v3 : Value} (hr : fn.results = #[r1, r2, r3]) (h1 : Rv P n M w0 l L r1 v1) (h2 : Rv P n M w0 l L r2 v2) (h3 : Rv P n M w0 l L r3 v3) (hR : ∀ w, Hp M w0 L w → R (.returned (.tuple #[v1, v2, v3])) w) :
    ∀ a w, Fr n l a → Hp M w0 L w → bodyPost P fn R .ret a w := fun a w hF hH => by
  refine ⟨hF.1, _, ?_, hR w hH⟩
  rw [results_eq, hr]
  simp [h1 a w hF hH, h2 a w hF hH, h3 a w hF hH]
theorem GC.ret4 {fn : Func} {R : Ending → World → Prop} {r1 r2 r3 r4 : ResultVar} {v1 v2 v3 v4 : Value} (hr : fn.results = #[r1, r2, r3, r4]) (h1 : Rv P n M w0 l L r1 v1) (h2 : Rv P n M w0 l L r2 v2) (h3 : Rv P n M w0 l L r3 v3) (h4 : Rv P n M w0 l L r4 v4) (hR : ∀ w, Hp M w0 L w → R (.returned (.tuple #[v1, v2, v3, v4])) w) :
    ∀ a w, Fr n l a → Hp M w0 L w → bodyPost P fn R .ret a w := fun a w hF hH => by
  refine ⟨hF.1, _, ?_, hR w hH⟩
  rw [results_eq, hr]
  simp [h1 a w hF hH, h2 a w hF hH, h3 a w hF hH, h4 a w hF hH]
theorem GC.ret0 {fn : Func} {R : Ending → World → Prop} (hr : fn.results = #[]) (hR : ∀ w, Hp M w0 L w → R (.returned (.tuple #[])) w) :
    ∀ a w, Fr n l a → Hp M w0 L w → bodyPost P fn R .ret a w := fun a w hF hH => ⟨hF.1, _, by simp [results, hr], hR w hH⟩
theorem GC.end0 {fn : Func} {R : Ending → World → Prop} (hr : fn.results = #[]) (hR : ∀ w, Hp M w0 L w → R (.returned (.tuple #[])) w) :
    ∀ a w, Fr n l a → Hp M w0 L w → bodyPost P fn R .normal a w := fun a w hF hH => ⟨hF.1, _, by simp [results, hr], hR w hH⟩
end

/-! ### The operations -/
section
variable {P : Program} {ops : Array Oper} {Q : Exit → Act → World → Prop} {n : Nat} {M : Nat → Prop} {w0 : World} {l : List (Nat × Value)} {L : List Blk}

/-- A type's size in cells; whether a value of it is an aggregate. -/
def Sz (P : Program) (T : TypeId) (s : Nat) : Prop := (P.info? T).map (·.size) = some s
def aggB : TypeDesc → Bool
  | .struct _ | .array _ _ => true
  | _ => false
def Ag (P : Program) (T : TypeId) (b : Bool) : Prop := (P.underlying T).map aggB = some b
theorem Sz.run {T s : Nat} (h : Sz P T s) (w : World) : (Go.sizeOf T).run P w = .ok s w := by
  unfold Sz at h
  cases e : P.info? T with
  | none => simp [e] at h
  | some i =>
    rw [e] at h
    simp only [Option.map_some, Option.some.injEq] at h
    simp [Go.sizeOf, typeInfo, e, h]
theorem Ag.run {T : Nat} {b : Bool} (h : Ag P T b) (w : World) : (isAgg T).run P w = .ok b w := by
  unfold Ag at h
  cases e : P.underlying T with
  | none => simp [e] at h
  | some d =>
    rw [e] at h
    simp only [Option.map_some, Option.some.injEq] at h
    unfold isAgg
    rw [Sem.run_bind, run_underlying e w]
    cases d <;> simp_all [aggB]
theorem under {T : Nat} {d : TypeDesc} (h : P.underlying T = some d) (w : World) : (underlying T).run P w = .ok d w := run_underlying h w

theorem Ex.sub {LS : List Blk} {op : Op} {v : Value} (h : Ex P n M w0 l LS op v) (hL : LS.Sublist L) : Ex P n M w0 l L op v := fun d ty pos af g a w hF hH => h d ty pos af g a w hF (hH.sub hL)

theorem Ex.move {x : Operand} {v : Value} (hx : opv l x = some v) : Ex P n M w0 l L (.move x) v := fun d ty pos af g a w hF hH => by
  show (Pure.pure (Next.value (a.eval x)) : Sem Next).run P w = _
  rw [hF.eval hx]; rfl
theorem Ex.assign {x : Operand} {v : Value} (hx : opv l x = some v) : Ex P n M w0 l L (.assign x) v := fun d ty pos af g a w hF hH => by
  show (Pure.pure (Next.value (a.eval x)) : Sem Next).run P w = _
  rw [hF.eval hx]; rfl

theorem run_v {s : Sem Value} {w : World} {v : Value} (h : s.run P w = .ok v w) : (do pure (Next.value (← s)) : Sem Next).run P w = .ok (.value v) w := by
  rw [Sem.run_bind, h]; rfl

theorem bin_guard {op : BinOp} {T : TypeId} {x y : Operand} {X Y : Value} (hX : X ≠ .nilIface) (hX2 : ∀ c, X ≠ .agg c) (w : World) : (eqGuard op T x y X Y).run P w = .ok () w := by
  unfold eqGuard
  cases op <;> (try rfl) <;> (cases X <;> first | rfl | exact absurd rfl hX | exact absurd rfl (hX2 _))

theorem Ex.bin {op : BinOp} {T T' : TypeId} {x y : Operand} {X Y v : Value} (hx : opv l x = some X) (hy : opv l y = some Y) (hX : X ≠ .nilIface) (hX2 : ∀ c, X ≠ .agg c)
    (hr : ∀ w, (binOp op T X Y).run P w = .ok v w) : Ex P n M w0 l L (.binOp op T x y T') v := fun d ty pos af g a w hF hH => by
  show (do pure (Next.value (← (do eqGuard op T x y (a.eval x) (a.eval y); binOp op T (a.eval x) (a.eval y)))) : Sem Next).run P w = _
  refine run_v ?_
  rw [hF.eval hx, hF.eval hy, Sem.run_bind, bin_guard hX hX2]
  exact hr w

theorem Ex.add {T T' : TypeId} {x y : Operand} {k : IntKind} {X Y Z : Int} (hx : opv l x = some (.int k X)) (hy : opv l y = some (.int k Y)) (hz : k.wrap (X + Y) = Z) : Ex P n M w0 l L (.binOp .add T x y T') (.int k Z) :=
  Ex.bin hx hy (by simp) (by simp) fun w => by simp [binOp, Op.intArith, hz]
theorem Ex.sub' {T T' : TypeId} {x y : Operand} {k : IntKind} {X Y Z : Int} (hx : opv l x = some (.int k X)) (hy : opv l y = some (.int k Y)) (hz : k.wrap (X - Y) = Z) : Ex P n M w0 l L (.binOp .sub T x y T') (.int k Z) :=
  Ex.bin hx hy (by simp) (by simp) fun w => by simp [binOp, Op.intArith, hz]
theorem Ex.mul {T T' : TypeId} {x y : Operand} {k : IntKind} {X Y Z : Int} (hx : opv l x = some (.int k X)) (hy : opv l y = some (.int k Y)) (hz : k.wrap (X * Y) = Z) : Ex P n M w0 l L (.binOp .mul T x y T') (.int k Z) :=
  Ex.bin hx hy (by simp) (by simp) fun w => by simp [binOp, Op.intArith, hz]
theorem Ex.quo {T T' : TypeId} {x y : Operand} {k : IntKind} {X Y Z : Int} (hx : opv l x = some (.int k X)) (hy : opv l y = some (.int k Y)) (h0 : Y ≠ 0) (hz : k.wrap (X.tdiv Y) = Z) : Ex P n M w0 l L (.binOp .quo T x y T') (.int k Z) :=
  Ex.bin hx hy (by simp) (by simp) fun w => by simp [binOp, Op.intDiv, hz, h0]
theorem Ex.rem {T T' : TypeId} {x y : Operand} {k : IntKind} {X Y Z : Int} (hx : opv l x = some (.int k X)) (hy : opv l y = some (.int k Y)) (h0 : Y ≠ 0) (hz : X.tmod Y = Z) : Ex P n M w0 l L (.binOp .rem T x y T') (.int k Z) :=
  Ex.bin hx hy (by simp) (by simp) fun w => by simp [binOp, Op.intDiv, hz, h0]
theorem Ex.lss {T T' : TypeId} {x y : Operand} {k : IntKind} {X Y : Int} (hx : opv l x = some (.int k X)) (hy : opv l y = some (.int k Y)) : Ex P n M w0 l L (.binOp .lss T x y T') (.bool (decide (X < Y))) :=
  Ex.bin hx hy (by simp) (by simp) fun w => by simp [binOp, Op.intCmp]
theorem Ex.leq {T T' : TypeId} {x y : Operand} {k : IntKind} {X Y : Int} (hx : opv l x = some (.int k X)) (hy : opv l y = some (.int k Y)) : Ex P n M w0 l L (.binOp .leq T x y T') (.bool (decide (X ≤ Y))) :=
  Ex.bin hx hy (by simp) (by simp) fun w => by simp [binOp, Op.intCmp]
theorem Ex.gtr {T T' : TypeId} {x y : Operand} {k : IntKind} {X Y : Int} (hx : opv l x = some (.int k X)) (hy : opv l y = some (.int k Y)) : Ex P n M w0 l L (.binOp .gtr T x y T') (.bool (decide (Y < X))) :=
  Ex.bin hx hy (by simp) (by simp) fun w => by simp [binOp, Op.intCmp]
theorem Ex.geq {T T' : TypeId} {x y : Operand} {k : IntKind} {X Y : Int} (hx : opv l x = some (.int k X)) (hy : opv l y = some (.int k Y)) : Ex P n M w0 l L (.binOp .geq T x y T') (.bool (decide (Y ≤ X))) :=
  Ex.bin hx hy (by simp) (by simp) fun w => by simp [binOp, Op.intCmp]
theorem Ex.eql {T T' : TypeId} {x y : Operand} {k : IntKind} {X Y : Int} (hx : opv l x = some (.int k X)) (hy : opv l y = some (.int k Y)) : Ex P n M w0 l L (.binOp .eql T x y T') (.bool (decide (X = Y))) :=
  Ex.bin hx hy (by simp) (by simp) fun w => by simp [binOp, Op.intCmp]; rfl
theorem Ex.neq {T T' : TypeId} {x y : Operand} {k : IntKind} {X Y : Int} (hx : opv l x = some (.int k X)) (hy : opv l y = some (.int k Y)) : Ex P n M w0 l L (.binOp .neq T x y T') (.bool (decide (X ≠ Y))) :=
  Ex.bin hx hy (by simp) (by simp) fun w => by simp [binOp, Op.intCmp, bne]; rfl
theorem Ex.eqlB {T T' : TypeId} {x y : Operand} {X Y : Bool} (hx : opv l x = some (.bool X)) (hy : opv l y = some (.bool Y)) (hT : P.underlying T = some .bool) : Ex P n M w0 l L (.binOp .eql T x y T') (.bool (X == Y)) :=
  Ex.bin hx hy (by simp) (by simp) fun w => run_eql_bool w T X Y hT
theorem Ex.neqB {T T' : TypeId} {x y : Operand} {X Y : Bool} (hx : opv l x = some (.bool X)) (hy : opv l y = some (.bool Y)) (hT : P.underlying T = some .bool) : Ex P n M w0 l L (.binOp .neq T x y T') (.bool (X != Y)) :=
  Ex.bin hx hy (by simp) (by simp) fun w => run_neq_bool w T X Y hT
/-- A slice, and a function, against none. -/
theorem Ex.eqNilS {T T' e : TypeId} {x y : Operand} {ad : Option Addr} {len cap : Nat} (hx : opv l x = some (.slice ad len cap)) (hy : opv l y = some (.slice none 0 0)) (hT : P.underlying T = some (.slice e)) : Ex P n M w0 l L (.binOp .eql T x y T') (.bool ad.isNone) :=
  Ex.bin hx hy (by simp) (by simp) fun w => by
    simp only [binOp]
    simp [run_equal_slice_nil w T e ad len cap hT]
theorem run_equalIn_func (d : Nat) {t : TypeId} {ps rs : Array TypeId} {v : Bool} (w : World) (h : P.underlying t = some (.func ps rs v)) (fn : Fn) (fs cs : Array Value) : (Op.equalIn (d + 1) t (.func fn fs cs) .nilFunc).run P w = .ok false w ∧ (Op.equalIn (d + 1) t .nilFunc .nilFunc).run P w = .ok true w := by
  constructor <;> simp [Op.equalIn, run_underlying h]
theorem Ex.eqNilF {T T' : TypeId} {x y : Operand} {fn : Fn} {fs cs : Array Value} {ps rs : Array TypeId} {v : Bool} (hx : opv l x = some (.func fn fs cs)) (hy : opv l y = some .nilFunc) (hT : P.underlying T = some (.func ps rs v)) : Ex P n M w0 l L (.binOp .eql T x y T') (.bool false) :=
  Ex.bin hx hy (by simp) (by simp) fun w => by
    have := (run_equalIn_func 9999 w hT fn fs cs).1
    simp only [binOp]
    simp [show Op.equal T (.func fn fs cs) .nilFunc = Op.equalIn (9999 + 1) T (.func fn fs cs) .nilFunc from rfl, this]
theorem Ex.eqNilFn {T T' : TypeId} {x y : Operand} {ps rs : Array TypeId} {v : Bool} (hx : opv l x = some .nilFunc) (hy : opv l y = some .nilFunc) (hT : P.underlying T = some (.func ps rs v)) : Ex P n M w0 l L (.binOp .eql T x y T') (.bool true) :=
  Ex.bin hx hy (by simp) (by simp) fun w => by
    have := (run_equalIn_func 9999 w hT (.func 0) #[] #[]).2
    simp only [binOp]
    simp [show Op.equal T .nilFunc .nilFunc = Op.equalIn (9999 + 1) T .nilFunc .nilFunc from rfl, this]
theorem Ex.not {T : TypeId} {x : Operand} {X : Bool} (hx : opv l x = some (.bool X)) : Ex P n M w0 l L (.unOp .not T x) (.bool (!X)) := fun d ty pos af g a w hF hH => by
  refine run_v ?_
  show (Op.unary .not (a.eval x)).run P w = _
  rw [hF.eval hx]; rfl
theorem Ex.neg {T : TypeId} {x : Operand} {k : IntKind} {X Z : Int} (hx : opv l x = some (.int k X)) (hz : k.wrap (0 - X) = Z) : Ex P n M w0 l L (.unOp .neg T x) (.int k Z) := fun d ty pos af g a w hF hH => by
  refine run_v ?_
  show (Op.unary .neg (a.eval x)).run P w = _
  rw [hF.eval hx]; simp [Op.unary, Op.intArith, ← hz]
theorem Ex.extract {x : Operand} {i : Nat} {vs : Array Value} {v : Value} (hx : opv l x = some (.tuple vs)) (hv : vs[i]? = some v) : Ex P n M w0 l L (.extract x i) v := fun d ty pos af g a w hF hH => by
  refine run_v ?_
  show (Instr.extract (a.eval x) i).run P w = _
  rw [hF.eval hx]; simp [Instr.extract, hv]
theorem Ex.conv {S T : TypeId} {x : Operand} {j k : IntKind} {X Z : Int} {dS : TypeDesc} (hx : opv l x = some (.int j X)) (hS : P.underlying S = some dS) (hT : P.underlying T = some (.int k)) (hz : k.wrap X = Z) : Ex P n M w0 l L (.convert S T x) (.int k Z) := fun d ty pos af g a w hF hH => by
  refine run_v ?_
  show (convert S T (a.eval x)).run P w = _
  rw [hF.eval hx]
  unfold convert
  rw [Sem.run_bind, under hS, Result.andThen_ok, Sem.run_bind, under hT, Result.andThen_ok]
  cases dS <;> simp [Conv.intToInt, hz]
theorem Ex.func {fn : Fn} {first captured : Array Operand} {cs : List Value} (hf : first = #[]) (hc : ∀ a, Fr n l a → captured.map a.eval = cs.toArray) : Ex P n M w0 l L (.makeFunc fn first captured) (.func fn #[] cs.toArray) := fun d ty pos af g a w hF hH => by
  refine run_v ?_
  show (Instr.makeFunc fn (first.map a.eval) (captured.map a.eval)).run P w = _
  rw [hc a hF, hf]; simp [Instr.makeFunc]

/-- A function value with values that are bound ahead of its parameters. -/
theorem Ex.funcB {fn : Fn} {first captured : Array Operand} {bs cs : List Value} (hf : ∀ a, Fr n l a → first.map a.eval = bs.toArray) (hc : ∀ a, Fr n l a → captured.map a.eval = cs.toArray) : Ex P n M w0 l L (.makeFunc fn first captured) (.func fn bs.toArray cs.toArray) := fun d ty pos af g a w hF hH => by
  refine run_v ?_
  show (Instr.makeFunc fn (first.map a.eval) (captured.map a.eval)).run P w = _
  rw [hc a hF, hf a hF]; simp [Instr.makeFunc]

/-- The operands' values. -/
def opvs (l : List (Nat × Value)) : List Operand → Option (List Value)
  | [] => some []
  | x :: r => match opv l x, opvs l r with
    | some v, some vs => some (v :: vs)
    | _, _ => none
theorem Fr.evals {a : Act} (h : Fr n l a) : ∀ (xs : List Operand) (vs : List Value), opvs l xs = some vs → xs.toArray.map a.eval = vs.toArray := by
  intro xs
  induction xs with
  | nil => intro vs hv; simp [opvs] at hv; subst hv; simp
  | cons x r ih =>
    intro vs hv
    unfold opvs at hv
    split at hv
    · rename_i v vs' h1 h2
      obtain rfl := Option.some.inj hv
      have := ih _ h2
      simp only [List.map_toArray, List.map_cons, h.eval h1] at this ⊢
      simpa using this
    · simp at hv

/-- A field's place. -/
theorem addr_add (b o k : Nat) : (⟨b, o, none⟩ : Addr).add k = ⟨b, o + k, none⟩ := by unfold Addr.add; split <;> simp_all
theorem Ex.fieldAddr {T : TypeId} {x : Operand} {i b o s : Nat} {fs : Array Field} {f : Field} (hx : opv l x = some (.pointer (some ⟨b, o, none⟩))) (hT : P.underlying T = some (.struct fs)) (hf : fs[i]? = some f) (hs : Sz P f.type s) (h0 : s ≠ 0) :
    Ex P n M w0 l L (.fieldAddr T x i) (.pointer (some ⟨b, o + f.offset, none⟩)) := fun d ty pos af g a w hF hH => by
  refine run_v ?_
  show (Instr.fieldAt T (a.eval x) i).run P w = _
  rw [hF.eval hx]
  simp [Instr.fieldAt, under hT, hf, Instr.sureAddr, fieldPlace, hs.run, h0, addr_add]

/-- A load of one cell of a known block. -/
theorem Ex.load {T : TypeId} {x : Operand} {b o i : Nat} {cs : List Value} {T0 : TypeId} {ow : Bool} {v : Value} (hx : opv l x = some (.pointer (some ⟨b, o, none⟩))) (hA : Ag P T false) (hL : L[i]? = some ⟨b, cs, T0, ow⟩) (hv : cs[o]? = some v) :
    Ex P n M w0 l L (.load T x) v := fun d ty pos af g a w hF hH => by
  refine run_v ?_
  show (Instr.loadAt T (a.eval x)).run P w = _
  rw [hF.eval hx]
  simp [Instr.loadAt, Instr.sureAddr, loadVar, hA.run, hH.cell hL, hv]
/-- A load of one cell of what was there. -/
theorem Ex.loadO {T : TypeId} {x : Operand} {p : Addr} {v : Value} (hx : opv l x = some (.pointer (some p))) (hA : Ag P T false) (hc : w0.cell? p = some v) (hM : ¬ M p.block) :
    Ex P n M w0 l L (.load T x) v := fun d ty pos af g a w hF hH => by
  refine run_v ?_
  show (Instr.loadAt T (a.eval x)).run P w = _
  rw [hF.eval hx]
  simp [Instr.loadAt, Instr.sureAddr, loadVar, hA.run, hH.old hc hM]
theorem run_cells {w : World} {b o : Nat} {cs : List Value} (h : ∀ j v, cs[j]? = some v → w.cell? ⟨b, o + j, none⟩ = some v) : (loadCells ⟨b, o, none⟩ cs.length).run P w = .ok cs.toArray w :=
  run_loadCells_list (P := P) w ⟨b, o, none⟩ cs (fun j v hv => by rw [addr_add]; exact h j v hv)
/-- A load of an aggregate out of a known block. -/
theorem Ex.loadA {T : TypeId} {x : Operand} {b o i s : Nat} {cs vs : List Value} {T0 : TypeId} {ow : Bool} (hx : opv l x = some (.pointer (some ⟨b, o, none⟩))) (hA : Ag P T true) (hS : Sz P T s) (hL : L[i]? = some ⟨b, cs, T0, ow⟩) (hv : (cs.drop o).take s = vs) (hl : vs.length = s) :
    Ex P n M w0 l L (.load T x) (.agg vs.toArray) := fun d ty pos af g a w hF hH => by
  refine run_v ?_
  show (Instr.loadAt T (a.eval x)).run P w = _
  rw [hF.eval hx]
  have h := run_cells (P := P) (w := w) (b := b) (o := o) (cs := vs) (fun j v hj => by
    rw [hH.cell hL, ← hj, ← hv, List.getElem?_take, List.getElem?_drop]
    have : j < vs.length := (List.getElem?_eq_some_iff.1 hj).1
    rw [if_pos (by omega)])
  rw [hl] at h
  simp [Instr.loadAt, Instr.sureAddr, loadVar, hA.run, hS.run, h]
/-- A load of an aggregate out of what was there. -/
theorem Ex.loadAO {T : TypeId} {x : Operand} {b o s : Nat} {vs : List Value} (hx : opv l x = some (.pointer (some ⟨b, o, none⟩))) (hA : Ag P T true) (hS : Sz P T s) (hc : ∀ j v, vs[j]? = some v → w0.cell? ⟨b, o + j, none⟩ = some v) (hM : ¬ M b) (hl : vs.length = s) :
    Ex P n M w0 l L (.load T x) (.agg vs.toArray) := fun d ty pos af g a w hF hH => by
  refine run_v ?_
  show (Instr.loadAt T (a.eval x)).run P w = _
  rw [hF.eval hx]
  have h := run_cells (P := P) (w := w) (b := b) (o := o) (cs := vs) (fun j v hj => hH.old (hc j v hj) hM)
  rw [hl] at h
  simp [Instr.loadAt, Instr.sureAddr, loadVar, hA.run, hS.run, h]
/-- An element's place in a slice. -/
theorem Ex.indexAddr {T E : TypeId} {x y : Operand} {b o len cap s : Nat} {k : IntKind} {i : Int} (hx : opv l x = some (.slice (some ⟨b, o, none⟩) len cap)) (hy : opv l y = some (.int k i)) (hT : P.underlying T = some (.slice E)) (hs : Sz P E s) (h0 : 0 ≤ i) (h1 : i < len) :
    Ex P n M w0 l L (.indexAddr T x y) (.pointer (some ⟨b, o + i.toNat * s, none⟩)) := fun d ty pos af g a w hF hH => by
  refine run_v ?_
  show (Instr.indexAt T (a.eval x) (a.eval y)).run P w = _
  rw [hF.eval hx, hF.eval hy]
  simp [Instr.indexAt, asIntOf, under hT, hs.run, h0, h1, addr_add]
theorem Ex.len {T : TypeId} {x : Operand} {E : TypeId} {ad : Option Addr} {len cap : Nat} (hx : opv l x = some (.slice ad len cap)) (hT : P.underlying T = some (.slice E)) : Ex P n M w0 l L (.call ⟨.builtin .len, #[x], #[T]⟩) (.int .i64 len) := fun d ty pos af g a w hF hH => by
  show (do let d ← resolve a.eval ⟨.builtin .len, #[x], #[T]⟩ ty; invoke d.target d.args : Sem Next).run P w = _
  simp [resolve, invoke, builtin, Builtin.len_, hF.eval hx, under hT, goInt]
theorem Ex.cap {T : TypeId} {x : Operand} {E : TypeId} {ad : Option Addr} {len cap : Nat} (hx : opv l x = some (.slice ad len cap)) (hT : P.underlying T = some (.slice E)) : Ex P n M w0 l L (.call ⟨.builtin .cap, #[x], #[T]⟩) (.int .i64 cap) := fun d ty pos af g a w hF hH => by
  show (do let d ← resolve a.eval ⟨.builtin .cap, #[x], #[T]⟩ ty; invoke d.target d.args : Sem Next).run P w = _
  simp [resolve, invoke, builtin, Builtin.cap_, hF.eval hx, under hT, goInt]
end

/-! ### Operations that make or write memory; calls -/
section
variable {P : Program} {ops : Array Oper} {Q : Exit → Act → World → Prop} {n : Nat} {M : Nat → Prop} {w0 : World} {l : List (Nat × Value)} {L : List Blk}

theorem Hp.perm {L' : List Blk} {w : World} (h : Hp M w0 L w) (hp : L.Perm L') : Hp M w0 L' w :=
  ⟨h.1, fun k hk => h.2.1 k (hp.mem_iff.2 hk), (hp.pairwise_iff (fun h => h.symm)).1 h.2.2⟩

/-- One cell is written. -/
theorem Hp.setCell {w : World} (h : Hp M w0 L w) {i : Nat} {b o : Nat} {cs : List Value} {T : TypeId} (hk : L[i]? = some ⟨b, cs, T, true⟩) (v : Value) : Hp M w0 (L.set i ⟨b, cs.set o v, T, true⟩) (w.setCell ⟨b, o, none⟩ v) := by
  refine h.turn (k := ⟨b, cs, T, true⟩) hk rfl (cs.set o v) (by simp [World.setCell]) rfl rfl rfl ?_ (fun j hj => Below.heap_setCell _ _ _ _ hj)
  have hg := h.get hk
  simp only at hg
  simp [World.setCell, Array.getElem?_modify, hg]

/-- Cells are written one behind the other. -/
def splice (cs : List Value) (k : Nat) (vs : List Value) : List Value := cs.take k ++ vs ++ cs.drop (k + vs.length)
theorem splice_nil (cs : List Value) (k : Nat) : splice cs k [] = cs := by simp [splice]
theorem splice_length (cs : List Value) (k : Nat) (vs : List Value) (h : k + vs.length ≤ cs.length) : (splice cs k vs).length = cs.length := by simp [splice]; omega
theorem splice_cons (cs : List Value) (k : Nat) (v : Value) (vs : List Value) (h : k < cs.length) : splice (cs.set k v) (k + 1) vs = splice cs k (v :: vs) := by
  have h1 : (cs.set k v).take (k + 1) = cs.take k ++ [v] := by
    rw [List.take_set, List.take_succ_eq_append_getElem h, List.set_append_right _ _ (by simp; omega)]
    simp [Nat.min_eq_left (Nat.le_of_lt h)]
  have h2 : (cs.set k v).drop (k + 1 + vs.length) = cs.drop (k + (vs.length + 1)) := by
    rw [List.drop_set_of_lt (by omega)]
    congr 1; omega
  simp only [splice, h1, h2, List.length_cons, List.append_assoc, List.singleton_append]
theorem run_storeCells {b : Nat} {T : TypeId} {i o : Nat} : ∀ (vs : List Value) (j : Nat) (L : List Blk) (cs : List Value) (w : World), Hp M w0 L w → L[i]? = some ⟨b, cs, T, true⟩ → o + j + vs.length ≤ cs.length → (∀ v ∈ vs, v.oneCell' = true) →
    ∃ w', (storeCells ⟨b, o, none⟩ vs j).run P w = .ok () w' ∧ Hp M w0 (L.set i ⟨b, splice cs (o + j) vs, T, true⟩) w' := by
  intro vs
  induction vs with
  | nil =>
    intro j L cs w hH hL hl h1
    refine ⟨w, rfl, ?_⟩
    rw [splice_nil]
    have : L.set i ⟨b, cs, T, true⟩ = L := by
      obtain ⟨hi, hg⟩ := List.getElem?_eq_some_iff.1 hL
      rw [← hg]; simp
    rw [this]; exact hH
  | cons v r ih =>
    intro j L cs w hH hL hl h1
    have hlt : o + j < cs.length := by simp at hl; omega
    obtain ⟨hi, hg⟩ := List.getElem?_eq_some_iff.1 hL
    have hc : w.cell? ⟨b, o + j, none⟩ = some cs[o + j] := by rw [hH.cell hL]; exact List.getElem?_eq_getElem hlt
    have hH1 := hH.setCell hL (o := o + j) v
    obtain ⟨w', hr, hH'⟩ := ih (j + 1) _ (cs.set (o + j) v) _ hH1 (by rw [List.getElem?_set]; simp [hi]) (by simp at hl ⊢; omega) (fun u hu => h1 u (List.mem_cons_of_mem _ hu))
    refine ⟨w', ?_, ?_⟩
    · unfold storeCells
      rw [Sem.run_bind, addr_add, run_store P w _ _ _ (h1 v List.mem_cons_self), hc]
      simp only [hH.frozen hL, Bool.false_eq_true, if_false, Result.andThen_ok]
      exact hr
    · rw [List.set_set] at hH'
      have e : o + (j + 1) = o + j + 1 := by omega
      rw [e, splice_cons _ _ _ _ hlt] at hH'
      exact hH'

theorem Stp.mk {σ : Type} {p : σ → Prop} {l' : σ → List (Nat × Value)} {L' : σ → List Blk} {o : Oper} (h : ∀ a w, Fr n l a → Hp M w0 L w → ∃ x v w', (execOp a.eval o).run P w = .ok (.value v) w' ∧ p x ∧ Fr n (l' x) (a.put o.dst v) ∧ Hp M w0 (L' x) w') : Stp P Q n M w0 l L o p l' L' := fun K hK a w hF hH => by
  obtain ⟨x, v, w', hr, hp, hF', hH'⟩ := h a w hF hH
  unfold Oper.wp
  rw [hr]
  exact hK x hp _ _ hF' hH'

theorem run_v' {s : Sem Value} {w w' : World} {v : Value} (h : s.run P w = .ok v w') : (do pure (Next.value (← s)) : Sem Next).run P w = .ok (.value v) w' := by
  rw [Sem.run_bind, h]; rfl

theorem Stp.box {d : Nat} {T ty : TypeId} {x : Operand} {pos : String} {af : Array Edge} {g : Option (Nat × Bool)} {v : Value} {cs : List Value} (hx : opv l x = some v) (hc : v.cells.toList = cs) (hd : d < n) :
    Stp P Q n M w0 l L ⟨some d, .box T x, ty, pos, af, g⟩ (σ := Nat) (fun _ => True) (fun b => (d, .pointer (some ⟨b, 0, none⟩)) :: l) (fun b => ⟨b, cs, T, true⟩ :: L) :=
  Stp.mk fun a w hF hH => ⟨w.heap.size, .pointer (some ⟨w.heap.size, 0, none⟩), w.alloc (.cells cs.toArray T), by
    refine run_v' ?_
    show (Instr.box T (a.eval x)).run P w = _
    rw [hF.eval hx, ← hc]
    simp [Instr.box, newVar, newRow], trivial, hF.put hd _, hH.alloc cs T⟩

/-- A type's zero value's cells. -/
def Zr (P : Program) (T : TypeId) (cs : List Value) : Prop := ((P.info? T).bind (·.zero)).map (·.cells.toList) = some cs
theorem Zr.run {T : TypeId} {cs : List Value} (h : Zr P T cs) (w : World) : ∃ z, (zeroValue T).run P w = .ok z w ∧ z.cells.toList = cs := by
  unfold Zr at h
  cases e : P.info? T with
  | none => simp [e] at h
  | some i =>
    cases e2 : i.zero with
    | none => simp [e, e2] at h
    | some z =>
      simp [e, e2] at h
      exact ⟨z, by simp [zeroValue, typeInfo, e, e2], h⟩
theorem Stp.alloc {d : Nat} {T ty : TypeId} {pos : String} {af : Array Edge} {g : Option (Nat × Bool)} {cs : List Value} (hz : Zr P T cs) (hd : d < n) :
    Stp P Q n M w0 l L ⟨some d, .alloc T, ty, pos, af, g⟩ (σ := Nat) (fun _ => True) (fun b => (d, .pointer (some ⟨b, 0, none⟩)) :: l) (fun b => ⟨b, cs, T, true⟩ :: L) :=
  Stp.mk fun a w hF hH => ⟨w.heap.size, .pointer (some ⟨w.heap.size, 0, none⟩), w.alloc (.cells cs.toArray T), by
    refine run_v' ?_
    show (Instr.alloc T true (.tuple #[])).run P w = _
    obtain ⟨z, hz1, hz2⟩ := hz.run w
    simp [Instr.alloc, hz1, ← hz2, newVar, newRow], trivial, hF.put hd _, hH.alloc cs T⟩

/-- The parts' values. -/
def opps (l : List (Nat × Value)) : List (Nat × Operand) → Option (List (Nat × Value))
  | [] => some []
  | (i, x) :: r => match opv l x, opps l r with
    | some v, some vs => some ((i, v) :: vs)
    | _, _ => none
theorem Fr.parts {a : Act} (h : Fr n l a) : ∀ (xs : List (Nat × Operand)) (vs : List (Nat × Value)), opps l xs = some vs → (xs.toArray.map fun (i, x) => (i, a.eval x)) = vs.toArray := by
  intro xs
  induction xs with
  | nil => intro vs hv; simp [opps] at hv; subst hv; simp
  | cons x r ih =>
    intro vs hv
    obtain ⟨i, x⟩ := x
    unfold opps at hv
    split at hv
    · rename_i v vs' h1 h2
      obtain rfl := Option.some.inj hv
      have := ih _ h2
      simp only [List.map_toArray, List.map_cons, h.eval h1] at this ⊢
      simpa using this
    · simp at hv
theorem Ex.build {T : TypeId} {ps : List (Nat × Operand)} {vs : List (Nat × Value)} {cs : Array Value} (hp : opps l ps = some vs) (hb : P.built T vs = some cs) : Ex P n M w0 l L (.build T ps.toArray) (.agg cs) := fun d ty pos af g a w hF hH => by
  refine run_v ?_
  show (Instr.build T (ps.toArray.map fun (i, x) => (i, a.eval x))).run P w = _
  rw [hF.parts ps vs hp]
  exact run_build w T vs.toArray cs (by simpa using hb)

/-- A store of one cell. -/
theorem Stp.store {T ty : TypeId} {x y : Operand} {pos : String} {af : Array Edge} {g : Option (Nat × Bool)} {i b o : Nat} {cs vs : List Value} {T0 : TypeId} {v : Value} (hx : opv l x = some (.pointer (some ⟨b, o, none⟩))) (hy : opv l y = some v) (hv : v.cells.toList = vs) (hS : Sz P T vs.length)
    (hL : L[i]? = some ⟨b, cs, T0, true⟩) (hl : o + vs.length ≤ cs.length) (h1 : vs.all (·.oneCell') = true) :
    Stp P Q n M w0 l L ⟨none, .store T x y, ty, pos, af, g⟩ (σ := Unit) (fun _ => True) (fun _ => l) (fun _ => L.set i ⟨b, splice cs o vs, T0, true⟩) := fun K hK a w hF hH => by
  obtain ⟨w', hr, hH'⟩ := run_storeCells (P := P) vs 0 L cs w hH hL (by omega) (fun v hv => List.all_eq_true.1 h1 v hv)
  have hrun : (execOp a.eval ⟨none, .store T x y, ty, pos, af, g⟩).run P w = .ok .skip w' := by
    show (do Instr.storeAt T (a.eval x) (a.eval y); pure Next.skip : Sem Next).run P w = _
    rw [hF.eval hx, hF.eval hy]
    have hsz : v.cells.size = vs.length := by rw [← hv]; simp
    rw [← hv] at hr hS
    simp [Instr.storeAt, Instr.sureAddr, storeVar, hS.run, hr]
  unfold Oper.wp
  rw [hrun]
  exact hK () trivial _ _ hF hH'

theorem Stp.makeSlice {d : Nat} {T E ty : TypeId} {x y : Operand} {pos : String} {af : Array Edge} {g : Option (Nat × Bool)} {kl kc : IntKind} {a1 c : Nat} {z : List Value} {s by_ : Nat} (hx : opv l x = some (.int kl a1)) (hy : opv l y = some (.int kc c)) (hT : P.underlying T = some (.slice E))
    (hz : Zr P E z) (hs : Sz P E s) (hb : (P.info? E).map (·.bytes) = some by_) (hzs : z.length = s) (hlc : a1 ≤ c) (hbytes : by_ * c ≤ 281474976710656) (h63 : c ≤ 9223372036854775807) (hd : d < n) :
    Stp P Q n M w0 l L ⟨some d, .makeSlice T x y, ty, pos, af, g⟩ (σ := Nat) (fun _ => True) (fun b => (d, .slice (some ⟨b, 0, none⟩) a1 c) :: l) (fun b => ⟨b, (madeCells z.toArray (c * s)).toList, E, true⟩ :: L) :=
  Stp.mk fun a w hF hH => ⟨w.heap.size, .slice (some ⟨w.heap.size, 0, none⟩) a1 c, w.alloc (.cells (madeCells z.toArray (c * s)).toList.toArray E), by
    refine run_v' ?_
    show (Instr.makeSlice T (a.eval x) (a.eval y)).run P w = _
    rw [hF.eval hx, hF.eval hy]
    unfold Zr at hz; unfold Sz at hs
    cases e : P.info? E with
    | none => simp [e] at hs
    | some i =>
      cases e2 : i.zero with
      | none => simp [e, e2] at hz
      | some zv =>
        simp [e, e2] at hz hs hb
        have hzv : z.toArray = zv.cells := by rw [← hz]
        rw [run_make w T E i zv hT e e2 kl kc a1 c (by omega) (by omega) (by rw [hb]; omega) (by omega), hs, hzv]
        simp, trivial, hF.put hd _, hH.alloc _ E⟩

/-- A function with a body of its own. -/
def Own (P : Program) (f : FuncId) : Prop := ∃ fn, P.funcs[f]? = some fn ∧ (fn.name == "runtime.NumGoroutine") = false ∧ fn.body.isNone = false
theorem run_callFunc {f : FuncId} (h : Own P f) (args : Array Value) (w : World) : (callFunc f args).run P w = .ok (.enter f args) w := by
  obtain ⟨fn, h1, h2, h3⟩ := h
  unfold callFunc
  simp only [Sem.run_bind, run_program, Result.andThen_ok, h1, h2, h3, Bool.false_eq_true, if_false, Sem.run_pure]

/-- A call of a function value. -/
theorem Stp.call {d : Nat} {x : Operand} {args : List Operand} {tys : Array TypeId} {ty : TypeId} {pos : String} {af : Array Edge} {g : Option (Nat × Bool)} {f : FuncId} {caps : Array Value} {vs : List Value} {σ : Type} {p : σ → Prop} {v : σ → Value} {L' : σ → List Blk}
    (hx : opv l x = some (.func (.func f) #[] caps)) (ha : opvs l args = some vs) (hf : Own P f) (hd : d < n)
    (hc : ∀ w, Hp M w0 L w → Calls P f (vs.toArray ++ caps) w fun e w' => ∃ x, e = .returned (v x) ∧ p x ∧ Hp M w0 (L' x) w') :
    Stp P Q n M w0 l L ⟨some d, .call ⟨.value x, args.toArray, tys⟩, ty, pos, af, g⟩ p (fun x => (d, v x) :: l) L' := fun K hK a w hF hH => by
  have hrun : (execOp a.eval ⟨some d, .call ⟨.value x, args.toArray, tys⟩, ty, pos, af, g⟩).run P w = .ok (.enter f (vs.toArray ++ caps)) w := by
    show (do let d ← resolve a.eval ⟨.value x, args.toArray, tys⟩ ty; invoke d.target d.args : Sem Next).run P w = _
    unfold resolve
    simp only [hF.eval hx, hF.evals args vs ha, Deferred.ofValue]
    simp only [Sem.run_bind, Sem.run_pure, Result.andThen_ok, invoke]
    simpa using run_callFunc hf _ w
  unfold Oper.wp
  rw [hrun, Oper.upon_enter]
  refine (hc w hH).mono ?_
  rintro e w' ⟨x, rfl, hp, hH'⟩
  exact hK x hp _ _ (hF.put hd _) hH'
end

/-! ### Contracts -/
section
variable {P : Program} {ops : Array Oper} {Q : Exit → Act → World → Prop} {n : Nat} {M : Nat → Prop} {w0 : World} {l : List (Nat × Value)} {L : List Blk}

/-- What a call that only makes memory leaves: all that was there, and new blocks. -/
def News (N : List Blk) (w w' : World) : Prop :=
  Below w.heap.size w w' ∧ (∀ k ∈ N, w'.heap[k.b]? = some (.cells k.cs.toArray k.T (0, 0)) ∧ w.heap.size ≤ k.b) ∧ N.Pairwise Two
/-- It returns v x, for an x of which p holds, and has made the blocks N x. -/
def Ret {σ : Type} (w : World) (p : σ → Prop) (v : σ → Value) (N : σ → List Blk) (e : Ending) (w' : World) : Prop := ∃ x, e = .returned (v x) ∧ p x ∧ News (N x) w w'
theorem Hp.news {w w' : World} {N : List Blk} (h : Hp M w0 L w) (hn : News N w w') : Hp M w0 (N ++ L) w' := by
  obtain ⟨hb, hk, hp⟩ := hn
  have hl := h.later hb
  refine ⟨hl.1, fun k hm => ?_, List.pairwise_append.2 ⟨hp, hl.2.2, fun x hx y hy _ e => ?_⟩⟩
  · rcases List.mem_append.1 hm with hm | hm
    · exact ⟨(hk k hm).1, fun _ hlt => absurd h.1.size (by have := (hk k hm).2; omega)⟩
    · exact hl.2.1 k hm
  · have h1 := (hk x hx).2
    have h2 := h.lt hy
    omega
/-- At a call's end: the new blocks out of the known ones. -/
theorem Hp.gives {w w' : World} {N : List Blk} (h : Hp None w L w') (hs : N.Sublist L) (ho : N.all (·.o) = true) : News N w w' :=
  ⟨h.1.below, fun k hk => ⟨(h.2.1 k (hs.subset hk)).1, by
    have := (h.2.1 k (hs.subset hk)).2 (List.all_eq_true.1 ho k hk)
    exact Nat.le_of_not_lt fun hlt => this hlt⟩, h.2.2.sublist hs⟩
theorem Hp.ret {w w' : World} {σ : Type} {p : σ → Prop} {v : σ → Value} {N : σ → List Blk} (h : Hp None w L w') (x : σ) (hp : p x) {u : Value} (hv : u = v x) (hs : (N x).Sublist L) (ho : (N x).all (·.o) = true) : Ret w p v N (.returned u) w' :=
  ⟨x, by rw [hv], hp, h.gives hs ho⟩

theorem Stp.callR {d : Nat} {x : Operand} {args : List Operand} {tys : Array TypeId} {ty : TypeId} {pos : String} {af : Array Edge} {g : Option (Nat × Bool)} {f : FuncId} {caps : Array Value} {vs : List Value} {σ : Type} {p : σ → Prop} {v : σ → Value} {N : σ → List Blk}
    (hx : opv l x = some (.func (.func f) #[] caps)) (ha : opvs l args = some vs) (hf : Own P f) (hd : d < n)
    (hc : ∀ w, Hp M w0 L w → Calls P f (vs.toArray ++ caps) w (Ret w p v N)) :
    Stp P Q n M w0 l L ⟨some d, .call ⟨.value x, args.toArray, tys⟩, ty, pos, af, g⟩ p (fun x => (d, v x) :: l) (fun x => N x ++ L) :=
  Stp.call hx ha hf hd fun w hH => (hc w hH).mono fun e w' h => by
    obtain ⟨x, he, hp, hn⟩ := h
    exact ⟨x, he, hp, hH.news hn⟩

theorem Stp.callB {d : Nat} {x : Operand} {args : List Operand} {tys : Array TypeId} {ty : TypeId} {pos : String} {af : Array Edge} {g : Option (Nat × Bool)} {f : FuncId} {fst caps : Array Value} {vs : List Value} {σ : Type} {p : σ → Prop} {v : σ → Value} {L' : σ → List Blk}
    (hx : opv l x = some (.func (.func f) fst caps)) (ha : opvs l args = some vs) (hf : Own P f) (hd : d < n)
    (hc : ∀ w, Hp M w0 L w → Calls P f (fst ++ vs.toArray ++ caps) w fun e w' => ∃ x, e = .returned (v x) ∧ p x ∧ Hp M w0 (L' x) w') :
    Stp P Q n M w0 l L ⟨some d, .call ⟨.value x, args.toArray, tys⟩, ty, pos, af, g⟩ p (fun x => (d, v x) :: l) L' := fun K hK a w hF hH => by
  have hrun : (execOp a.eval ⟨some d, .call ⟨.value x, args.toArray, tys⟩, ty, pos, af, g⟩).run P w = .ok (.enter f (fst ++ vs.toArray ++ caps)) w := by
    show (do let d ← resolve a.eval ⟨.value x, args.toArray, tys⟩ ty; invoke d.target d.args : Sem Next).run P w = _
    unfold resolve
    simp only [hF.eval hx, hF.evals args vs ha, Deferred.ofValue]
    simp only [Sem.run_bind, Sem.run_pure, Result.andThen_ok, invoke]
    simpa using run_callFunc hf _ w
  unfold Oper.wp
  rw [hrun, Oper.upon_enter]
  refine (hc w hH).mono ?_
  rintro e w' ⟨x, rfl, hp, hH'⟩
  exact hK x hp _ _ (hF.put hd _) hH'
theorem Stp.callRB {d : Nat} {x : Operand} {args : List Operand} {tys : Array TypeId} {ty : TypeId} {pos : String} {af : Array Edge} {g : Option (Nat × Bool)} {f : FuncId} {fst caps : Array Value} {vs : List Value} {σ : Type} {p : σ → Prop} {v : σ → Value} {N : σ → List Blk}
    (hx : opv l x = some (.func (.func f) fst caps)) (ha : opvs l args = some vs) (hf : Own P f) (hd : d < n)
    (hc : ∀ w, Hp M w0 L w → Calls P f (fst ++ vs.toArray ++ caps) w (Ret w p v N)) :
    Stp P Q n M w0 l L ⟨some d, .call ⟨.value x, args.toArray, tys⟩, ty, pos, af, g⟩ p (fun x => (d, v x) :: l) (fun x => N x ++ L) :=
  Stp.callB hx ha hf hd fun w hH => (hc w hH).mono fun e w' h => by
    obtain ⟨x, he, hp, hn⟩ := h
    exact ⟨x, he, hp, hH.news hn⟩

/-- Blocks that are there. -/
def Has (w : World) (R : List Blk) : Prop := ∀ k ∈ R, w.heap[k.b]? = some (.cells k.cs.toArray k.T (0, 0))
theorem Has.nil (w : World) : Has w [] := fun _ h => by simp at h
theorem Has.cons {w : World} {R : List Blk} {b : Nat} {cs : List Value} {T : TypeId} {o : Bool} (h : w.heap[b]? = some (.cells cs.toArray T (0, 0))) (hr : Has w R) : Has w (⟨b, cs, T, o⟩ :: R) := fun k hk => by
  rcases List.mem_cons.1 hk with rfl | hk
  · exact h
  · exact hr k hk
/-- A call's begin: blocks that it may only read. -/
theorem Hp.reads {w : World} {R : List Blk} (h : Has w R) (ho : R.all (fun k => !k.o) = true) : Hp M w R w :=
  ⟨Keep.refl _ _, fun k hk => ⟨h k hk, fun e => absurd e (by have := List.all_eq_true.1 ho k hk; simpa using this)⟩, by
    refine List.Pairwise.imp_of_mem (R := fun _ _ => True) (fun {a b} ha hb _ e => ?_) (List.pairwise_of_forall (fun _ _ => trivial))
    have h1 := List.all_eq_true.1 ho a ha
    have h2 := List.all_eq_true.1 ho b hb
    simp at h1 h2 e
    simp [h1, h2] at e⟩

/-- The cells of a slice that may be read. -/
def Rd (w : World) (b o : Nat) (xs : List Value) : Prop := ∀ j v, xs[j]? = some v → w.cell? ⟨b, o + j, none⟩ = some v
theorem Rd.later {w w' : World} {b o : Nat} {xs : List Value} (h : Rd w b o xs) (hk : Keep None w w') : Rd w' b o xs := fun j v hv => by
  rw [World.cell?_of_block (hk.block b (cell_lt (h j v hv)) (fun x => x))]; exact h j v hv
theorem Hp.rd {w : World} (h : Hp M w0 L w) {b o : Nat} {xs : List Value} (hr : Rd w0 b o xs) (hM : ¬ M b) : Rd w b o xs := fun j v hv => h.old (hr j v hv) hM
theorem Hp.rdOf {w : World} (h : Hp M w0 L w) {i b : Nat} {cs : List Value} {T : TypeId} {o : Bool} (hk : L[i]? = some ⟨b, cs, T, o⟩) (off : Nat) : Rd w b off (cs.drop off) := fun j v hv => by
  rw [h.cell hk, ← hv, List.getElem?_drop]
theorem Hp.hasOf {w : World} (h : Hp M w0 L w) {i : Nat} {k : Blk} (hk : L[i]? = some k) : w.heap[k.b]? = some (.cells k.cs.toArray k.T (0, 0)) := h.get hk

theorem w64 {z : Int} (h : -9223372036854775808 ≤ z ∧ z ≤ 9223372036854775807) : IntKind.i64.wrap z = z := by rw [IntKind.wrap_i64]; omega
theorem wu32 (z : Int) : IntKind.u32.wrap z = z % 4294967296 := by simp [IntKind.wrap, IntKind.bits, IntKind.signed]
theorem wu64 (z : Int) : IntKind.u64.wrap z = z % 18446744073709551616 := by simp [IntKind.wrap, IntKind.bits, IntKind.signed]

theorem Ex.cast {op : Op} {v v' : Value} (h : Ex P n M w0 l L op v) (e : v = v') : Ex P n M w0 l L op v' := e ▸ h

/-! ### What a piece of code ends in -/
abbrev GE (n : Nat) (M : Nat → Prop) (w0 : World) (l : List (Nat × Value)) (L : List Blk) (F : Act → World → Prop) : Prop := ∀ a w, Fr n l a → Hp M w0 L w → F a w
variable {A : Act → World → Prop} {id id' : Nat}
theorem GE.thenN (K : GE n M w0 l L A) : GE n M w0 l L (Exit.then A Q .normal) := K
theorem GE.thenE (K : GE n M w0 l L (Q (.exit id))) : GE n M w0 l L (Exit.then A Q (.exit id)) := K
theorem GE.thenR (K : GE n M w0 l L (Q .ret)) : GE n M w0 l L (Exit.then A Q .ret) := K
theorem GE.blockN (K : GE n M w0 l L (Q .normal)) : GE n M w0 l L (Exit.inBlock id Q .normal) := K
theorem GE.blockR (K : GE n M w0 l L (Q .ret)) : GE n M w0 l L (Exit.inBlock id Q .ret) := K
theorem GE.blockE (K : GE n M w0 l L (Q .normal)) : GE n M w0 l L (Exit.inBlock id Q (.exit id)) := fun a w hF hH => by
  simp only [Exit.inBlock, if_true]; exact K a w hF hH
theorem GE.blockX (h : id' ≠ id) (K : GE n M w0 l L (Q (.exit id'))) : GE n M w0 l L (Exit.inBlock id Q (.exit id')) := fun a w hF hH => by
  simp only [Exit.inBlock, if_neg h]; exact K a w hF hH
end

/-! ### Small forms for the printed walks -/
section
variable {P : Program} {ops : Array Oper} {Q : Exit → Act → World → Prop} {n : Nat} {M : Nat → Prop} {w0 : World} {l : List (Nat × Value)} {L : List Blk}
theorem Rv.cell {p : Nat} {T : TypeId} {b o i : Nat} {cs : List Value} {T0 : TypeId} {ow : Bool} {v : Value} (h : l.lookup p = some (.pointer (some ⟨b, o, none⟩))) (hA : Ag P T false) (hL : L[i]? = some ⟨b, cs, T0, ow⟩) (hv : cs[o]? = some v) : Rv P n M w0 l L (.cell p T) v := fun a w hF hH => by
  have h1 := hF.2.2 _ _ h
  simp [rvs, h1, asAddr, loadVar, hA.run, hH.cell hL, hv]
theorem Rv.cellA {p : Nat} {T : TypeId} {b o i s : Nat} {cs vs : List Value} {T0 : TypeId} {ow : Bool} (h : l.lookup p = some (.pointer (some ⟨b, o, none⟩))) (hA : Ag P T true) (hS : Sz P T s) (hL : L[i]? = some ⟨b, cs, T0, ow⟩) (hv : (cs.drop o).take s = vs) (hl : vs.length = s) : Rv P n M w0 l L (.cell p T) (.agg vs.toArray) := fun a w hF hH => by
  have h1 := hF.2.2 _ _ h
  have h := run_cells (P := P) (w := w) (b := b) (o := o) (cs := vs) (fun j v hj => by
    rw [hH.cell hL, ← hj, ← hv, List.getElem?_take, List.getElem?_drop]
    have : j < vs.length := (List.getElem?_eq_some_iff.1 hj).1
    rw [if_pos (by omega)])
  rw [hl] at h
  simp [rvs, h1, asAddr, loadVar, hA.run, hS.run, h]
theorem Stp.storeL {T ty : TypeId} {x y : Operand} {pos : String} {af : Array Edge} {g : Option (Nat × Bool)} {i b o : Nat} {cs vs : List Value} {T0 : TypeId} {v : Value} {L1 : List Blk} (hx : opv l x = some (.pointer (some ⟨b, o, none⟩))) (hy : opv l y = some v) (hv : v.cells.toList = vs) (hS : Sz P T vs.length)
    (hL : L[i]? = some ⟨b, cs, T0, true⟩) (hl : Nat.ble (o + vs.length) cs.length = true) (h1 : vs.all (·.oneCell') = true) (hL1 : L.set i ⟨b, splice cs o vs, T0, true⟩ = L1) :
    Stp P Q n M w0 l L ⟨none, .store T x y, ty, pos, af, g⟩ (σ := Unit) (fun _ => True) (fun _ => l) (fun _ => L1) := by
  subst hL1
  exact Stp.store hx hy hv hS hL (Nat.le_of_ble_eq_true hl) h1
theorem quo64 {x y : Int} (hx : 0 ≤ x) (hy : 1 ≤ y) (h : x ≤ 9223372036854775807) : IntKind.i64.wrap (x.tdiv y) = x / y := by
  rw [Int.tdiv_eq_ediv_of_nonneg hx]
  have h1 : 0 ≤ x / y := Int.ediv_nonneg hx (by omega)
  have h2 : x / y ≤ x := Int.ediv_le_self _ hx
  exact w64 (by omega)
theorem rem64 {x y : Int} (hx : 0 ≤ x) (hy : 1 ≤ y) : x.tmod y = x % y := Int.tmod_eq_emod_of_nonneg hx
end

/-! ### A region that draws, whose last operation waits for all others -/
section
variable {P : Program} {ops : Array Oper} {Q : Exit → Act → World → Prop} {md : Region.Mode}
theorem upon_then {A : Act → World → Prop} {o : Oper} {a : Act} {K : Act → World → Prop} (r : Result Next) (h : o.upon P a K (Exit.then A Q) r) : o.upon P a K Q r := by
  cases r with
  | ok nx w => cases nx <;> exact h
  | halt x w => cases x <;> exact h
theorem wp_then {A : Act → World → Prop} {o : Oper} {a : Act} {w : World} {K : Act → World → Prop} (h : o.wp P a w K (Exit.then A Q)) : o.wp P a w K Q := upon_then _ h
theorem wpOp_push {A : Act → World → Prop} {o : Oper} {i : Nat} {K K' : Act → World → Prop} {a : Act} {w : World} (hi : i < ops.size) (hg : ∀ oi j b, ops[i]? = some oi → oi.guard = some (j, b) → j < ops.size)
    (hK : ∀ a w, K a w → K' a w) (h : wpOp P ops (Exit.then A Q) i K a w) : wpOp P (ops.push o) Q i K' a w := by
  have e1 : (ops.push o)[i]? = ops[i]? := by rw [Array.getElem?_push, if_neg (by omega)]
  obtain ⟨oi, hoi⟩ : ∃ oi, ops[i]? = some oi := ⟨ops[i], Array.getElem?_eq_getElem hi⟩
  have e2 : Region.wanted oi (yielded (ops.push o) a.tmps) = Region.wanted oi (yielded ops a.tmps) := by
    unfold Region.wanted
    cases hgd : oi.guard with
    | none => rfl
    | some jb =>
      obtain ⟨j, b⟩ := jb
      have hj := hg oi j b hoi hgd
      have e3 : (ops.push o)[j]? = ops[j]? := by rw [Array.getElem?_push, if_neg (by omega)]
      simp only [yielded, e3]
  have h' := wpOp_mono hK h
  unfold wpOp at h' ⊢
  rw [e1]
  rw [hoi] at h' ⊢
  simp only [e2] at h' ⊢
  split
  · rename_i hw
    rw [if_pos hw] at h'
    exact h'.imp wp_then id
  · rename_i hw
    rw [if_neg hw] at h'
    exact h'

def Unl (l : Array Bool) : Nat := l.toList.countP (fun b => !b)
theorem any_snoc {o : Oper} (hord : ∀ (i : Nat) oi, ops[i]? = some oi → ∀ e ∈ oi.after, Region.binds md e = true → e.on < i)
    (hall : ∀ j, j < ops.size → ∃ e ∈ o.after, Region.binds md e = true ∧ e.on = j) (hle : ∀ e ∈ o.after, Region.binds md e = true → e.on < ops.size)
    (hg : ∀ (i : Nat) oi j b, ops[i]? = some oi → oi.guard = some (j, b) → j < ops.size) :
    ∀ (fuel : Nat) (listed : Array Bool) (a : Act) (w : World), listed.size = ops.size → Unl listed = fuel →
      wpAny P md ops (Exit.then (fun a w => wpOp P (ops.push o) Q ops.size (Q .normal) a w) Q) fuel listed a w → wpAny P md (ops.push o) Q (fuel + 1) (listed.push false) a w := by
  have hgetlt : ∀ (listed : Array Bool) (d : Bool) (j : Nat), j < listed.size → (listed.push false).getD j d = listed.getD j d := by
    intro listed d j hj
    simp [Array.getD_eq_getD_getElem?, Array.getElem?_push, Nat.ne_of_lt hj]
  -- what may come up of the shorter one is what may come up, while something is not listed
  have hready : ∀ (listed : Array Bool) (i : Nat), listed.size = ops.size → i < ops.size → (i ∈ Region.ready md (ops.push o) (listed.push false) ↔ i ∈ Region.ready md ops listed) := by
    intro listed i hs hi
    rw [mem_ready, mem_ready, hgetlt listed true i (by omega)]
    have e1 : (ops.push o)[i]? = ops[i]? := by rw [Array.getElem?_push, if_neg (by omega)]
    rw [e1]
    constructor
    · rintro ⟨h0, oi, ho, h1⟩
      exact ⟨h0, oi, ho, fun e he hb => by rw [← hgetlt listed false e.on (by have := hord i oi ho e he hb; omega)]; exact h1 e he hb⟩
    · rintro ⟨h0, oi, ho, h1⟩
      exact ⟨h0, oi, ho, fun e he hb => by rw [hgetlt listed false e.on (by have := hord i oi ho e he hb; omega)]; exact h1 e he hb⟩
  have hlast : ∀ (listed : Array Bool), listed.size = ops.size → (ops.size ∈ Region.ready md (ops.push o) (listed.push false) ↔ ∀ j, j < ops.size → listed.getD j false = true) := by
    intro listed hs
    rw [mem_ready]
    have e0 : (listed.push false).getD ops.size true = false := by simp [Array.getD_eq_getD_getElem?, ← hs]
    have e1 : (ops.push o)[ops.size]? = some o := by simp
    rw [e0, e1]
    constructor
    · rintro ⟨_, oi, ho, h1⟩ j hj
      obtain rfl := Option.some.inj ho
      obtain ⟨e, he, hb, rfl⟩ := hall j hj
      rw [← hgetlt listed false e.on (by omega)]; exact h1 e he hb
    · intro h
      exact ⟨rfl, o, rfl, fun e he hb => by rw [hgetlt listed false e.on (by have := hle e he hb; omega)]; exact h e.on (hle e he hb)⟩
  have hsz : ∀ (listed : Array Bool) (i : Nat), listed.size = ops.size → i ∈ Region.ready md (ops.push o) (listed.push false) → i ≤ ops.size := by
    intro listed i hs hi
    rw [mem_ready] at hi
    obtain ⟨_, oi, ho, _⟩ := hi
    have := (Array.getElem?_eq_some_iff.1 ho).1
    simp at this; omega
  intro fuel
  induction fuel with
  | zero =>
    intro listed a w hs hu h
    have hAll : ∀ j, j < ops.size → listed.getD j false = true := by
      intro j hj
      have h1 := List.countP_eq_zero.1 hu (listed[j]'(by omega)) (by simp)
      simp at h1
      simp [Array.getD_eq_getD_getElem?, Array.getElem?_eq_getElem (show j < listed.size by omega), h1]
    have hin := (hlast listed hs).2 hAll
    refine ⟨fun h0 => by rw [h0] at hin; simp at hin, fun i hi => ?_⟩
    have hio : i = ops.size := by
      rcases Nat.lt_or_ge i ops.size with hlt | hge
      · rw [hready listed i hs hlt, h.1] at hi; simp at hi
      · have := hsz listed i hs hi; omega
    subst hio
    refine wpOp_mono (fun a w hq => ⟨?_, hq⟩) h.2
    rw [List.eq_nil_iff_forall_not_mem]
    intro i hi
    rw [mem_ready] at hi
    obtain ⟨h0, oi, ho, _⟩ := hi
    have hlt := (Array.getElem?_eq_some_iff.1 ho).1
    rw [Array.getD_eq_getD_getElem?, Array.getElem?_setIfInBounds] at h0
    split at h0
    · rename_i e; simp [hs] at h0
    · rename_i e
      have hi' : i < ops.size := by simp at hlt; omega
      rw [← Array.getD_eq_getD_getElem?, hgetlt listed true i (by omega)] at h0
      have h1 := hAll i hi'
      simp [Array.getD_eq_getD_getElem?, Array.getElem?_eq_getElem (show i < listed.size by omega)] at h0 h1
      rw [h0] at h1; cases h1
  | succ fuel ih =>
    intro listed a w hs hu h
    obtain ⟨h1, h2⟩ := h
    -- something is not listed
    have hex : ∃ j, j < ops.size ∧ listed.getD j false = false := by
      have : 0 < listed.toList.countP (fun b => !b) := by unfold Unl at hu; omega
      obtain ⟨b, hb, hb2⟩ := List.countP_pos_iff.1 this
      obtain ⟨j, hj, rfl⟩ := List.getElem_of_mem hb
      simp at hb2 hj
      exact ⟨j, by omega, by simp [Array.getD_eq_getD_getElem?, Array.getElem?_eq_getElem hj, hb2]⟩
    have hnl : ops.size ∉ Region.ready md (ops.push o) (listed.push false) := fun hi => by
      obtain ⟨j, hj, hj2⟩ := hex
      rw [(hlast listed hs).1 hi j hj] at hj2; cases hj2
    have hne : Region.ready md (ops.push o) (listed.push false) ≠ [] := by
      -- the first that is not listed may come up
      obtain ⟨j, hj, hj2⟩ := hex
      have : ∀ k, ∀ j, j < k → j < ops.size → listed.getD j false = false → ∃ i, i < ops.size ∧ i ∈ Region.ready md ops listed := by
        intro k
        induction k with
        | zero => intro j hj; omega
        | succ k ihk =>
          intro j hjk hj hj2
          by_cases hc : ∃ i, i < j ∧ listed.getD i false = false
          · obtain ⟨i, hij, hi2⟩ := hc
            exact ihk i (by omega) (by omega) hi2
          · refine ⟨j, hj, mem_ready.2 ⟨?_, ops[j], Array.getElem?_eq_getElem hj, fun e he hb => ?_⟩⟩
            · simpa [Array.getD_eq_getD_getElem?, Array.getElem?_eq_getElem (show j < listed.size by omega)] using hj2
            · have hlt := hord j _ (Array.getElem?_eq_getElem hj) e he hb
              cases hv : listed.getD e.on false with
              | true => rfl
              | false => exact absurd ⟨e.on, hlt, hv⟩ hc
      obtain ⟨i, hi, hi2⟩ := this (j + 1) j (by omega) hj hj2
      intro h0
      have := (hready listed i hs hi).2 hi2
      rw [h0] at this; simp at this
    refine ⟨fun h0 => absurd h0 hne, fun i hi => ?_⟩
    have hio : i < ops.size := by
      have h3 := hsz listed i hs hi
      rcases Nat.lt_or_ge i ops.size with hlt | hge
      · exact hlt
      · exact absurd (by rw [show ops.size = i by omega]; exact hi) hnl
    have hi' := (hready listed i hs hio).1 hi
    have hi0 := (mem_ready.1 hi').1
    refine wpOp_push hio (fun oi j b ho hgd => hg i oi j b ho hgd) (fun a w hq => ?_) (h2 i hi')
    have hset : (listed.push false).setIfInBounds i true = (listed.setIfInBounds i true).push false := by
      apply Array.ext_getElem?
      intro k
      simp only [Array.getElem?_setIfInBounds, Array.getElem?_push, Array.size_push, Array.size_setIfInBounds]
      by_cases e : i = k
      · subst e
        have : i < listed.size + 1 := by omega
        have h3 : i < listed.size := by omega
        have h4 : ¬ i = listed.size := by omega
        simp [this, h3, h4]
      · simp [e]
    rw [hset]
    refine ih _ a w (by simpa using hs) ?_ hq
    have hlt : i < listed.size := by omega
    have hfalse : listed.toList[i]'(by simpa using hlt) = false := by
      simpa [Array.getD_eq_getD_getElem?, Array.getElem?_eq_getElem hlt] using hi0
    unfold Unl at hu ⊢
    rw [Array.toList_setIfInBounds]
    have h5 := List.countP_set (p := fun b : Bool => !b) (l := listed.toList) (i := i) (a := true) (by simpa using hlt)
    rw [h5, hfalse]
    simp at hu ⊢
    omega
end

section
variable {P : Program} {ops : Array Oper} {Q : Exit → Act → World → Prop} {n : Nat} {M : Nat → Prop} {w0 : World} {l : List (Nat × Value)} {L : List Blk}
def tailB (os : Array Oper) (o : Oper) : Bool :=
  ((List.range os.size).all fun i => match os[i]? with
    | some oi => oi.after.all (fun e => !Region.binds .any e || decide (e.on < i)) && (match oi.guard with | some (j, _) => decide (j < os.size) | none => true)
    | none => true) &&
  ((List.range os.size).all fun j => o.after.any fun e => Region.binds .any e && e.on == j) && o.after.all fun e => !Region.binds .any e || decide (e.on < os.size)
theorem any_tail {os : Array Oper} {o : Oper} (h : tailB os o = true) {a : Act} {w : World}
    (K : wpAny P .any os (Exit.then (fun a w => wpOp P (os.push o) Q os.size (Q .normal) a w) Q) os.size (Array.replicate os.size false) a w) : wpAny P .any (os.push o) Q (os.push o).size (Array.replicate (os.push o).size false) a w := by
  unfold tailB at h
  rw [Bool.and_eq_true, Bool.and_eq_true, List.all_eq_true, List.all_eq_true, Array.all_eq_true_iff_forall_mem] at h
  obtain ⟨⟨h1, h2⟩, h3⟩ := h
  have hr : Array.replicate (os.push o).size false = (Array.replicate os.size false).push false := by simp [Array.replicate_succ]
  rw [hr, Array.size_push]
  have hk : ∀ (i : Nat) (oi : Oper), os[i]? = some oi → oi.after.all (fun e => !Region.binds .any e || decide (e.on < i)) = true ∧ (match oi.guard with | some (j, _) => decide (j < os.size) | none => true) = true := by
    intro i oi ho
    have := h1 i (List.mem_range.2 (Array.getElem?_eq_some_iff.1 ho).1)
    rw [ho] at this
    exact Bool.and_eq_true_iff.1 this
  refine any_snoc ?_ ?_ ?_ ?_ _ _ a w (by simp) ?_ K
  · intro i oi ho e he hb
    have := Array.all_eq_true_iff_forall_mem.1 (hk i oi ho).1 e he
    simpa [hb] using this
  · intro j hj
    obtain ⟨e, he, h4⟩ := Array.any_eq_true'.1 (h2 j (List.mem_range.2 hj))
    rw [Bool.and_eq_true, beq_iff_eq] at h4
    exact ⟨e, he, h4.1, h4.2⟩
  · intro e he hb
    have := h3 e he
    simpa [hb] using this
  · intro i oi j b ho hg
    have := (hk i oi ho).2
    rw [hg] at this
    simpa using this
  · unfold Unl
    simp [List.countP_replicate]
theorem GC.drawT {id : Nat} {os all : Array Oper} {o : Oper} (LS : List Blk) (hm : P.follows .mixedOrders = true) (hcat : os.push o = all) (ht : tailB os o = true) {fuel : Nat} {listed : Array Bool} (h1 : os.size = fuel) (h2 : Array.replicate os.size false = listed)
    (K : GH P os (Exit.then (fun a w => wpOp P all Q fuel (Q .normal) a w) Q) n M w0 LS l L fuel listed) : GC P Q n M w0 l L (.region id all true) := fun a w hF hH => by
  subst hcat
  subst h1
  rw [← h2] at K
  exact wp_region_any hm (any_tail ht (wpAny_of_held _ _ _ _ (K a _ hF hH.drew)))
theorem GC.drawP {id : Nat} {all : Array Oper} (LS : List Blk) (hm : P.follows .mixedOrders = true) (hcat : all.pop.push all.back! = all) (ht : tailB all.pop all.back! = true) {fuel : Nat} {listed : Array Bool} (h1 : all.pop.size = fuel) (h2 : Array.replicate all.pop.size false = listed)
    (K : GH P all.pop (Exit.then (fun a w => wpOp P all Q fuel (Q .normal) a w) Q) n M w0 LS l L fuel listed) : GC P Q n M w0 l L (.region id all true) :=
  GC.drawT LS hm hcat ht h1 h2 K
theorem GE.tail {all : Array Oper} {k : Nat} {F : Act → World → Prop} {σ : Type} {p : σ → Prop} {l' : σ → List (Nat × Value)} {L' : σ → List Blk} {d : Option Nat} {op : Op} {ty : TypeId} {pos : String} {after : Array Edge}
    (hi : all[k]? = some ⟨d, op, ty, pos, after, none⟩) (h : Stp P Q n M w0 l L ⟨d, op, ty, pos, after, none⟩ p l' L') (K : ∀ x, p x → GE n M w0 (l' x) (L' x) F) : GE n M w0 l L (fun a w => wpOp P all Q k F a w) := fun a w hF hH => by
  unfold wpOp
  rw [hi]
  simp only
  rw [if_pos (by simp [Region.wanted])]
  exact Or.inl (h F K a w hF hH)

/-! ### Slices that are made and appended to -/
theorem Zr.parts {T : TypeId} {z : List Value} (h : Zr P T z) : ∃ i zv, P.info? T = some i ∧ i.zero = some zv ∧ zv.cells = z.toArray := by
  unfold Zr at h
  cases e : P.info? T with
  | none => simp [e] at h
  | some i =>
    cases e2 : i.zero with
    | none => simp [e, e2] at h
    | some zv =>
      simp [e, e2] at h
      exact ⟨i, zv, rfl, e2, by rw [← h]⟩
theorem Stp.buildSlice {d : Nat} {T E ty : TypeId} {ps : List (Nat × Operand)} {pos : String} {af : Array Edge} {g : Option (Nat × Bool)} {len s : Nat} {z cs : List Value} {vs : List (Nat × Value)} (hT : P.underlying T = some (.slice E)) (hz : Zr P E z) (hs : Sz P E s) (hp : opps l ps = some vs) (hle : len * s ≤ 16777216) (h0 : len * s ≠ 0)
    (hf : Instr.fill (fun i => some (i * s, s)) (madeCells z.toArray (len * s)) vs = some cs.toArray) (hd : d < n) :
    Stp P Q n M w0 l L ⟨some d, .buildSlice T len ps.toArray, ty, pos, af, g⟩ (σ := Nat) (fun _ => True) (fun b => (d, .slice (some ⟨b, 0, none⟩) len len) :: l) (fun b => ⟨b, cs, E, true⟩ :: L) :=
  Stp.mk fun a w hF hH => ⟨w.heap.size, .slice (some ⟨w.heap.size, 0, none⟩) len len, w.alloc (.cells cs.toArray E), by
    refine run_v' ?_
    show (Instr.buildSlice T len (ps.toArray.map fun (i, x) => (i, a.eval x))).run P w = _
    rw [hF.parts ps vs hp]
    obtain ⟨i, zv, e1, e2, e3⟩ := hz.parts
    have hs' := hs
    unfold Sz at hs'
    simp [e1] at hs'
    have hb : ¬ 2 ^ 24 < len * s := by omega
    have hf' : Instr.fill (fun i => some (i * s, s)) ((Array.range (len * s)).map (zv.cells[· % zv.cells.size]!)) vs = some cs.toArray := by rw [e3]; exact hf
    unfold Instr.buildSlice
    simp only [Sem.run_bind, under hT, Result.andThen_ok, hs.run]
    simp only [gt_iff_lt, hb, if_false, h0, zeroValue, typeInfo, Sem.run_bind, run_program, Result.andThen_ok, e1, e2, Sem.run_pure, hf']
    simp [newRow], trivial, hF.put hd _, hH.alloc cs E⟩

/-- A slice of no elements: a block of no cells. -/
theorem Stp.buildSlice0 {d : Nat} {T E ty : TypeId} {pos : String} {af : Array Edge} {g : Option (Nat × Bool)} {s : Nat} (hT : P.underlying T = some (.slice E)) (hs : Sz P E s) (hd : d < n) :
    Stp P Q n M w0 l L ⟨some d, .buildSlice T 0 #[], ty, pos, af, g⟩ (σ := Nat) (fun _ => True) (fun b => (d, .slice (some ⟨b, 0, none⟩) 0 0) :: l) (fun b => ⟨b, [], E, true⟩ :: L) :=
  Stp.mk fun a w hF hH => ⟨w.heap.size, .slice (some ⟨w.heap.size, 0, none⟩) 0 0, w.alloc (.cells #[] E), by
    refine run_v' ?_
    show (Instr.buildSlice T 0 (([] : List (Nat × Operand)).toArray.map fun (i, x) => (i, a.eval x))).run P w = _
    rw [hF.parts [] [] rfl]
    have hf : ∀ A : Array Value, Instr.fill (fun i => some (i * s, s)) A [] = some A := fun _ => rfl
    have hr : Array.range 0 = #[] := by decide
    unfold Instr.buildSlice
    simp only [Sem.run_bind, under hT, Result.andThen_ok, hs.run, Nat.zero_mul]
    simp [newRow, hf, hr], trivial, hF.put hd _, hH.alloc [] E⟩

theorem run_app {a : Act} (hF : Fr n l a) {d : Option Nat} {T ty : TypeId} {x y : Operand} {X Y : Value} {pos : String} {af : Array Edge} {g : Option (Nat × Bool)} (hx : opv l x = some X) (hy : opv l y = some Y) {w w' : World} {v : Value}
    (hr : (Builtin.append_ #[T, T] ty #[X, Y]).run P w = .ok v w') : (execOp a.eval ⟨d, .call ⟨.builtin .append, #[x, y], #[T, T]⟩, ty, pos, af, g⟩).run P w = .ok (.value v) w' := by
  show (do let d ← resolve a.eval ⟨.builtin .append, #[x, y], #[T, T]⟩ ty; invoke d.target d.args : Sem Next).run P w = _
  simp only [resolve, Sem.run_bind, Sem.run_pure, Result.andThen_ok, invoke, builtin]
  simp only [List.map_toArray, List.map_cons, List.map_nil, hF.eval hx, hF.eval hy, hr, Result.andThen_ok]
theorem Stp.appendFits {d : Nat} {T E ty : TypeId} {x y : Operand} {pos : String} {af : Array Edge} {g : Option (Nat × Bool)} {i b b2 o2 len cap m c2 s len' : Nat} {cs vs : List Value} {L1 : List Blk} (hx : opv l x = some (.slice (some ⟨b, 0, none⟩) len cap)) (hy : opv l y = some (.slice (some ⟨b2, o2, none⟩) m c2))
    (hT : P.underlying T = some (.slice E)) (hs : Sz P E s) (hL : L[i]? = some ⟨b, cs, E, true⟩) (hsrc : ∀ w, Hp M w0 L w → Rd w b2 o2 vs) (hvs : vs.length = m * s) (h1 : vs.all (·.oneCell') = true) (hlen : len + m = len') (hfit : len' ≤ cap) (hl : len * s + vs.length ≤ cs.length) (hL1 : L.set i ⟨b, splice cs (len * s) vs, E, true⟩ = L1) (hd : d < n) :
    Stp P Q n M w0 l L ⟨some d, .call ⟨.builtin .append, #[x, y], #[T, T]⟩, ty, pos, af, g⟩ (σ := Unit) (fun _ => True) (fun _ => (d, .slice (some ⟨b, 0, none⟩) len' cap) :: l) (fun _ => L1) :=
  Stp.mk fun a w hF hH => by
    subst hL1
    subst hlen
    have hg := hH.get hL
    simp only at hg
    have hs' := hs
    unfold Sz at hs'
    cases e : P.info? E with
    | none => simp [e] at hs'
    | some inf =>
      simp [e] at hs'
      subst hs'
      have hr := run_append_room (P := P) w T ty E inf hT e b len cap cs.toArray hg ⟨b2, o2, none⟩ m c2 vs hvs (fun j u hu => by rw [addr_add]; exact hsrc w hH j u hu) (fun u hu => List.all_eq_true.1 h1 u hu) hfit (by simpa using hl)
      have hrun := run_app (d := some d) (pos := pos) (af := af) (g := g) hF hx hy hr
      refine ⟨(), _, _, hrun, trivial, hF.put hd _, ?_⟩
      · refine hH.turn (k := ⟨b, cs, E, true⟩) hL rfl (splice cs (len * inf.size) vs) (by simp [World.setRow]) rfl rfl rfl ?_ (fun j hj => ?_)
        · rw [setRow_heap w b _ _ _ _ hg]; simp [splice]
        · simp only [World.setRow, Array.getElem?_modify]; rw [if_neg (fun q => hj q.symm)]

theorem Stp.appendNil {d : Nat} {T E ty : TypeId} {x y : Operand} {pos : String} {af : Array Edge} {g : Option (Nat × Bool)} {b2 o2 m c2 s by_ : Nat} {z vs : List Value} (hx : opv l x = some (.slice none 0 0)) (hy : opv l y = some (.slice (some ⟨b2, o2, none⟩) m c2))
    (hT : P.underlying T = some (.slice E)) (hs : Sz P E s) (hz : Zr P E z) (hzs : z.length = s) (hby : (P.info? E).map (·.bytes) = some by_) (hsrc : ∀ w, Hp M w0 L w → Rd w b2 o2 vs) (hvs : vs.length = m * s) (h0 : 0 < m) (hroom : m * by_ ≤ 140737488355328) (h63 : m ≤ 9223372036854775807) (hd : d < n) :
    Stp P Q n M w0 l L ⟨some d, .call ⟨.builtin .append, #[x, y], #[T, T]⟩, ty, pos, af, g⟩ (σ := Nat × Nat × List Value) (fun r => (vs ++ r.2.2).length = r.2.1 * s ∧ m ≤ r.2.1) (fun r => (d, .slice (some ⟨r.1, 0, none⟩) m r.2.1) :: l) (fun r => ⟨r.1, vs ++ r.2.2, E, true⟩ :: L) :=
  Stp.mk fun a w hF hH => by
    obtain ⟨inf, zv, e1, e2, e3⟩ := hz.parts
    have hs' := hs
    unfold Sz at hs'
    simp [e1] at hs' hby
    subst hs'
    have hr := run_append_nil (P := P) w T ty E inf zv hT e1 e2 ⟨b2, o2, none⟩ m c2 vs hvs (fun j u hu => by rw [addr_add]; exact hsrc w hH j u hu) h0 (by omega) (by rw [hby]; omega)
    have hcap := grownCap_ge w m 0 E
    have hzl : (Builtin.zeroCells zv.cells (grownCap w m 0 E - m)).toList.length = (grownCap w m 0 E - m) * inf.size := by
      rw [Array.length_toList, size_zeroCells, e3]; simp [hzs]
    have hrun := run_app (d := some d) (pos := pos) (af := af) (g := g) hF hx hy hr
    refine ⟨(w.heap.size, grownCap w m 0 E, (Builtin.zeroCells zv.cells (grownCap w m 0 E - m)).toList), _, _, hrun, ⟨?_, hcap⟩, hF.put hd _, ?_⟩
    · dsimp only; rw [List.length_append, hvs, hzl, ← Nat.add_mul]; congr 1; omega
    · have h2 := hH.drew.alloc (vs ++ (Builtin.zeroCells zv.cells (grownCap w m 0 E - m)).toList) E
      have e4 : (vs ++ (Builtin.zeroCells zv.cells (grownCap w m 0 E - m)).toList).toArray = vs.toArray ++ Builtin.zeroCells zv.cells (grownCap w m 0 E - m) := by
        apply Array.ext'; simp
      rw [e4] at h2
      exact h2

theorem perm_erase {α : Type} : ∀ {l : List α} {i : Nat} (h : i < l.length), (l[i] :: l.eraseIdx i).Perm l
  | x :: r, 0, _ => List.Perm.refl _
  | x :: r, i + 1, h => by
    have hi : i < r.length := by simpa using h
    simp only [List.getElem_cons_succ, List.eraseIdx_cons_succ]
    exact (List.Perm.swap x _ _).trans (List.Perm.cons x (perm_erase hi))
theorem Stp.appendOwn {d : Nat} {T E ty : TypeId} {x y : Operand} {pos : String} {af : Array Edge} {g : Option (Nat × Bool)} {i b b2 o2 len cap m c2 s by_ : Nat} {z xs sp vs : List Value} {L1 : List Blk} (hx : opv l x = some (.slice (some ⟨b, 0, none⟩) len cap)) (hy : opv l y = some (.slice (some ⟨b2, o2, none⟩) m c2))
    (hT : P.underlying T = some (.slice E)) (hs : Sz P E s) (hz : Zr P E z) (hzs : z.length = s) (hby : (P.info? E).map (·.bytes) = some by_) (hL : L[i]? = some ⟨b, xs ++ sp, E, true⟩) (hxs : xs.length = len * s) (hcl : (xs ++ sp).length = cap * s)
    (hsrc : ∀ w, Hp M w0 L w → Rd w b2 o2 vs) (hvs : vs.length = m * s) (h1 : vs.all (·.oneCell') = true) (hroom : (len + m) * by_ ≤ 140737488355328) (h63 : len + m ≤ 9223372036854775807) (hL1 : L.eraseIdx i = L1) (hd : d < n) :
    Stp P Q n M w0 l L ⟨some d, .call ⟨.builtin .append, #[x, y], #[T, T]⟩, ty, pos, af, g⟩ (σ := Nat × Nat × List Value) (fun r => (xs ++ vs ++ r.2.2).length = r.2.1 * s ∧ len + m ≤ r.2.1) (fun r => (d, .slice (some ⟨r.1, 0, none⟩) (len + m) r.2.1) :: l) (fun r => ⟨r.1, xs ++ vs ++ r.2.2, E, true⟩ :: L1) :=
  Stp.mk fun a w hF hH => by
    subst hL1
    obtain ⟨inf, zv, e1, e2, e3⟩ := hz.parts
    have hs' := hs
    unfold Sz at hs'
    simp [e1] at hs' hby
    subst hs'
    have hg := hH.get hL
    simp only at hg
    have hrd : ∀ j u, vs[j]? = some u → w.cell? ((⟨b2, o2, none⟩ : Addr).add j) = some u := fun j u hu => by rw [addr_add]; exact hsrc w hH j u hu
    by_cases hfit : len + m ≤ cap
    · have hlen : (len + m) * inf.size ≤ cap * inf.size := Nat.mul_le_mul_right _ hfit
      rw [Nat.add_mul] at hlen
      have hr := run_append_room (P := P) w T ty E inf hT e1 b len cap (xs ++ sp).toArray hg ⟨b2, o2, none⟩ m c2 vs hvs hrd (fun u hu => List.all_eq_true.1 h1 u hu) hfit (by simp only [List.size_toArray]; omega)
      have hsp : sp.length = cap * inf.size - len * inf.size := by simp at hcl; omega
      refine ⟨(b, cap, sp.drop vs.length), _, _, run_app hF hx hy hr, ⟨?_, hfit⟩, hF.put hd _, ?_⟩
      · simp only [List.length_append, List.length_drop]; omega
      · have h2 := hH.turn (w' := w.setRow b ((xs ++ sp).toArray.toList.take (len * inf.size) ++ vs ++ (xs ++ sp).toArray.toList.drop (len * inf.size + vs.length)).toArray) (k := ⟨b, xs ++ sp, E, true⟩) hL rfl (xs ++ vs ++ sp.drop vs.length) (by simp [World.setRow]) rfl rfl rfl
          (by rw [setRow_heap w b _ _ _ _ hg]; simp only [← hxs, List.take_left, List.drop_append]; simp) (fun j hj => by simp only [World.setRow, Array.getElem?_modify]; rw [if_neg (fun q => hj q.symm)])
        refine h2.perm ?_
        have hi := (List.getElem?_eq_some_iff.1 hL).1
        have h3 := perm_erase (l := L.set i ⟨b, xs ++ vs ++ sp.drop vs.length, E, true⟩) (i := i) (by simpa using hi)
        rw [List.getElem_set_self, List.eraseIdx_set_eq] at h3
        exact h3.symm
    · have hlt : cap < len + m := by omega
      have hr := run_append_grow (P := P) w T ty E inf zv hT e1 e2 ⟨b, 0, none⟩ len cap xs hxs (fun j u hu => by
          rw [addr_add, hH.cell hL, Nat.zero_add, List.getElem?_append_left ((List.getElem?_eq_some_iff.1 hu).1)]; exact hu) ⟨b2, o2, none⟩ m c2 vs hvs hrd hlt (by omega) (growslice_fits hlt (by rw [hby]; omega))
      have hcap := grownCap_ge w (len + m) cap E
      have hzl : (Builtin.zeroCells zv.cells (grownCap w (len + m) cap E - (len + m))).toList.length = (grownCap w (len + m) cap E - (len + m)) * inf.size := by
        rw [Array.length_toList, size_zeroCells, e3]; simp [hzs]
      refine ⟨(w.heap.size, grownCap w (len + m) cap E, (Builtin.zeroCells zv.cells (grownCap w (len + m) cap E - (len + m))).toList), _, _, run_app hF hx hy hr, ⟨?_, hcap⟩, hF.put hd _, ?_⟩
      · dsimp only; rw [List.length_append, List.length_append, hxs, hvs, hzl, ← Nat.add_mul, ← Nat.add_mul]; congr 1; omega
      · have h2 := (hH.drew.alloc (xs ++ vs ++ (Builtin.zeroCells zv.cells (grownCap w (len + m) cap E - (len + m))).toList) E).sub (List.Sublist.cons_cons _ (List.eraseIdx_sublist (l := L) (k := i)))
        have e4 : (xs ++ vs ++ (Builtin.zeroCells zv.cells (grownCap w (len + m) cap E - (len + m))).toList).toArray = xs.toArray ++ vs.toArray ++ Builtin.zeroCells zv.cells (grownCap w (len + m) cap E - (len + m)) := by
          apply Array.ext'; simp
        rw [e4] at h2
        exact h2
/-- The same; the room is no more than a slice may have. -/
theorem Stp.appendOwnB {d : Nat} {T E ty : TypeId} {x y : Operand} {pos : String} {af : Array Edge} {g : Option (Nat × Bool)} {i b b2 o2 len cap m c2 s by_ : Nat} {z xs sp vs : List Value} {L1 : List Blk} (hx : opv l x = some (.slice (some ⟨b, 0, none⟩) len cap)) (hy : opv l y = some (.slice (some ⟨b2, o2, none⟩) m c2))
    (hT : P.underlying T = some (.slice E)) (hs : Sz P E s) (hz : Zr P E z) (hzs : z.length = s) (hby : (P.info? E).map (·.bytes) = some by_) (hL : L[i]? = some ⟨b, xs ++ sp, E, true⟩) (hxs : xs.length = len * s) (hcl : (xs ++ sp).length = cap * s)
    (hsrc : ∀ w, Hp M w0 L w → Rd w b2 o2 vs) (hvs : vs.length = m * s) (h1 : vs.all (·.oneCell') = true) (hroom : (len + m) * by_ ≤ 140737488355328) (h63 : len + m ≤ 9223372036854775807) (hL1 : L.eraseIdx i = L1) (hcb : cap ≤ 9223372036854775807) (hd : d < n) :
    Stp P Q n M w0 l L ⟨some d, .call ⟨.builtin .append, #[x, y], #[T, T]⟩, ty, pos, af, g⟩ (σ := Nat × Nat × List Value) (fun r => (xs ++ vs ++ r.2.2).length = r.2.1 * s ∧ len + m ≤ r.2.1 ∧ r.2.1 ≤ 9223372036854775807) (fun r => (d, .slice (some ⟨r.1, 0, none⟩) (len + m) r.2.1) :: l) (fun r => ⟨r.1, xs ++ vs ++ r.2.2, E, true⟩ :: L1) :=
  Stp.mk fun a w hF hH => by
    subst hL1
    obtain ⟨inf, zv, e1, e2, e3⟩ := hz.parts
    have hs' := hs
    unfold Sz at hs'
    simp [e1] at hs' hby
    subst hs'
    have hg := hH.get hL
    simp only at hg
    have hrd : ∀ j u, vs[j]? = some u → w.cell? ((⟨b2, o2, none⟩ : Addr).add j) = some u := fun j u hu => by rw [addr_add]; exact hsrc w hH j u hu
    by_cases hfit : len + m ≤ cap
    · have hlen : (len + m) * inf.size ≤ cap * inf.size := Nat.mul_le_mul_right _ hfit
      rw [Nat.add_mul] at hlen
      have hr := run_append_room (P := P) w T ty E inf hT e1 b len cap (xs ++ sp).toArray hg ⟨b2, o2, none⟩ m c2 vs hvs hrd (fun u hu => List.all_eq_true.1 h1 u hu) hfit (by simp only [List.size_toArray]; omega)
      have hsp : sp.length = cap * inf.size - len * inf.size := by simp at hcl; omega
      refine ⟨(b, cap, sp.drop vs.length), _, _, run_app hF hx hy hr, ⟨?_, hfit, hcb⟩, hF.put hd _, ?_⟩
      · simp only [List.length_append, List.length_drop]; omega
      · have h2 := hH.turn (w' := w.setRow b ((xs ++ sp).toArray.toList.take (len * inf.size) ++ vs ++ (xs ++ sp).toArray.toList.drop (len * inf.size + vs.length)).toArray) (k := ⟨b, xs ++ sp, E, true⟩) hL rfl (xs ++ vs ++ sp.drop vs.length) (by simp [World.setRow]) rfl rfl rfl
          (by rw [setRow_heap w b _ _ _ _ hg]; simp only [← hxs, List.take_left, List.drop_append]; simp) (fun j hj => by simp only [World.setRow, Array.getElem?_modify]; rw [if_neg (fun q => hj q.symm)])
        refine h2.perm ?_
        have hi := (List.getElem?_eq_some_iff.1 hL).1
        have h3 := perm_erase (l := L.set i ⟨b, xs ++ vs ++ sp.drop vs.length, E, true⟩) (i := i) (by simpa using hi)
        rw [List.getElem_set_self, List.eraseIdx_set_eq] at h3
        exact h3.symm
    · have hlt : cap < len + m := by omega
      have hr := run_append_grow (P := P) w T ty E inf zv hT e1 e2 ⟨b, 0, none⟩ len cap xs hxs (fun j u hu => by
          rw [addr_add, hH.cell hL, Nat.zero_add, List.getElem?_append_left ((List.getElem?_eq_some_iff.1 hu).1)]; exact hu) ⟨b2, o2, none⟩ m c2 vs hvs hrd hlt (by omega) (growslice_fits hlt (by rw [hby]; omega))
      have hcap := grownCap_ge w (len + m) cap E
      have hzl : (Builtin.zeroCells zv.cells (grownCap w (len + m) cap E - (len + m))).toList.length = (grownCap w (len + m) cap E - (len + m)) * inf.size := by
        rw [Array.length_toList, size_zeroCells, e3]; simp [hzs]
      refine ⟨(w.heap.size, grownCap w (len + m) cap E, (Builtin.zeroCells zv.cells (grownCap w (len + m) cap E - (len + m))).toList), _, _, run_app hF hx hy hr, ⟨?_, hcap, grownCap_le_maxLen w (len + m) cap E (by unfold maxLen; omega)⟩, hF.put hd _, ?_⟩
      · dsimp only; rw [List.length_append, List.length_append, hxs, hvs, hzl, ← Nat.add_mul, ← Nat.add_mul]; congr 1; omega
      · have h2 := (hH.drew.alloc (xs ++ vs ++ (Builtin.zeroCells zv.cells (grownCap w (len + m) cap E - (len + m))).toList) E).sub (List.Sublist.cons_cons _ (List.eraseIdx_sublist (l := L) (k := i)))
        have e4 : (xs ++ vs ++ (Builtin.zeroCells zv.cells (grownCap w (len + m) cap E - (len + m))).toList).toArray = xs.toArray ++ vs.toArray ++ Builtin.zeroCells zv.cells (grownCap w (len + m) cap E - (len + m)) := by
          apply Array.ext'; simp
        rw [e4] at h2
        exact h2
end

section
variable {P : Program} {ops : Array Oper} {Q : Exit → Act → World → Prop} {n : Nat} {M : Nat → Prop} {w0 : World} {l : List (Nat × Value)} {L : List Blk}
theorem Ex.pickT {c x y : Operand} {v : Value} (hc : opv l c = some (.bool true)) (hx : opv l x = some v) : Ex P n M w0 l L (.pick c x y) v := fun d ty pos af g a w hF hH => by
  show (do pure (Next.value (if ← asBool (a.eval c) then a.eval x else a.eval y)) : Sem Next).run P w = _
  rw [hF.eval hc, hF.eval hx]; rfl
theorem Ex.pickF {c x y : Operand} {v : Value} (hc : opv l c = some (.bool false)) (hy : opv l y = some v) : Ex P n M w0 l L (.pick c x y) v := fun d ty pos af g a w hF hH => by
  show (do pure (Next.value (if ← asBool (a.eval c) then a.eval x else a.eval y)) : Sem Next).run P w = _
  rw [hF.eval hc, hF.eval hy]; rfl
theorem Ex.minI {x y : Operand} {k : IntKind} {X Y Z : Int} {tys : Array TypeId} (hx : opv l x = some (.int k X)) (hy : opv l y = some (.int k Y)) (hz : (if Y < X then Y else X) = Z) : Ex P n M w0 l L (.call ⟨.builtin .min, #[x, y], tys⟩) (.int k Z) := fun d ty pos af g a w hF hH => by
  show (do let d ← resolve a.eval ⟨.builtin .min, #[x, y], tys⟩ ty; invoke d.target d.args : Sem Next).run P w = _
  simp [resolve, invoke, builtin, Builtin.min_, Builtin.min2, hF.eval hx, hF.eval hy, hz]
theorem Ex.maxI {x y : Operand} {k : IntKind} {X Y Z : Int} {tys : Array TypeId} (hx : opv l x = some (.int k X)) (hy : opv l y = some (.int k Y)) (hz : (if X < Y then Y else X) = Z) : Ex P n M w0 l L (.call ⟨.builtin .max, #[x, y], tys⟩) (.int k Z) := fun d ty pos af g a w hF hH => by
  show (do let d ← resolve a.eval ⟨.builtin .max, #[x, y], tys⟩ ty; invoke d.target d.args : Sem Next).run P w = _
  simp [resolve, invoke, builtin, Builtin.max_, Builtin.max2, hF.eval hx, hF.eval hy, hz]
theorem Has.later {w w' : World} {R : List Blk} (h : Has w R) (k : Keep None w w') : Has w' R := fun x hx => by
  rw [k.block x.b (heap_lt (h x hx)) (fun q => q)]; exact h x hx
theorem Has.append {w : World} {R S : List Blk} (h : Has w R) (k : Has w S) : Has w (R ++ S) := fun x hx => by
  rcases List.mem_append.1 hx with hx | hx
  · exact h x hx
  · exact k x hx
theorem Keep.two {w1 w2 w3 : World} (h : Keep None w1 w2) (k : Keep None w2 w3) : Keep None w1 w3 := h.trans k (fun _ _ x => x)
end

/-! ### Ways that meet again; blocks in another order; many that may come up -/
section
variable {P : Program} {ops : Array Oper} {Q : Exit → Act → World → Prop} {n : Nat} {M : Nat → Prop} {w0 : World} {l : List (Nat × Value)} {L : List Blk}
def pick (L : List Blk) : List Nat → Option (List Blk)
  | [] => some []
  | i :: r => match L[i]?, pick L r with
    | some k, some ks => some (k :: ks)
    | _, _ => none
theorem pick_mem {L' : List Blk} : ∀ {idx : List Nat}, pick L idx = some L' → ∀ k ∈ L', ∃ i ∈ idx, L[i]? = some k := by
  intro idx
  induction idx generalizing L' with
  | nil => intro h k hk; simp [pick] at h; subst h; simp at hk
  | cons i r ih =>
    intro h k hk
    unfold pick at h
    split at h
    · rename_i k0 ks h1 h2
      obtain rfl := Option.some.inj h
      rcases List.mem_cons.1 hk with rfl | hk
      · exact ⟨i, by simp, h1⟩
      · obtain ⟨j, hj, hj2⟩ := ih h2 k hk
        exact ⟨j, by simp [hj], hj2⟩
    · cases h
theorem Hp.pick {w : World} {idx : List Nat} {L' : List Blk} (h : Hp M w0 L w) (hn : idx.Nodup) (hL : Sx.pick L idx = some L') : Hp M w0 L' w := by
  refine ⟨h.1, fun k hk => ?_, ?_⟩
  · obtain ⟨i, _, hi⟩ := pick_mem hL k hk
    exact h.2.1 k (List.mem_of_getElem? hi)
  · have htwo : ∀ (i j : Nat) (x y : Blk), i ≠ j → L[i]? = some x → L[j]? = some y → Two x y := by
      intro i j x y hne hx hy
      obtain ⟨hi, rfl⟩ := List.getElem?_eq_some_iff.1 hx
      obtain ⟨hj, rfl⟩ := List.getElem?_eq_some_iff.1 hy
      rcases Nat.lt_or_ge i j with hlt | hge
      · exact List.pairwise_iff_getElem.1 h.2.2 i j hi hj hlt
      · exact (List.pairwise_iff_getElem.1 h.2.2 j i hj hi (by omega)).symm
    clear h
    induction idx generalizing L' with
    | nil => simp [Sx.pick] at hL; subst hL; exact List.Pairwise.nil
    | cons i r ih =>
      unfold Sx.pick at hL
      split at hL
      · rename_i k0 ks h1 h2
        obtain rfl := Option.some.inj hL
        refine List.Pairwise.cons (fun k hk => ?_) (ih (List.nodup_cons.1 hn).2 h2)
        obtain ⟨j, hj, hj2⟩ := pick_mem h2 k hk
        exact htwo i j k0 k (fun e => (List.nodup_cons.1 hn).1 (e ▸ hj)) h1 hj2
      · cases hL
/-- A state of a family. -/
def St (n : Nat) (M : Nat → Prop) (w0 : World) {σ : Type} (p : σ → Prop) (l' : σ → List (Nat × Value)) (L' : σ → List Blk) : Act → World → Prop :=
  fun a w => ∃ s, p s ∧ Fr n (l' s) a ∧ Hp M w0 (L' s) w
theorem St.mk {σ : Type} {p : σ → Prop} {l' : σ → List (Nat × Value)} {L' : σ → List Blk} (s : σ) (hp : p s) {idx : List Nat} (hl : Sx.sub l (l' s)) (hn : idx.Nodup) (hL : Sx.pick L idx = some (L' s)) : GE n M w0 l L (St n M w0 p l' L') :=
  fun _ _ hF hH => ⟨s, hp, hF.sub hl, hH.pick hn hL⟩
theorem GC.join {c : Code} {σ : Type} (p : σ → Prop) (l' : σ → List (Nat × Value)) (L' : σ → List Blk) (K1 : GC P (Exit.then (St n M w0 p l' L') Q) n M w0 l L c) (K2 : ∀ s, p s → GE n M w0 (l' s) (L' s) (Q .normal)) : GC P Q n M w0 l L c := fun a w hF hH => by
  refine Code.wp_mono (fun e a w hq => ?_) (K1 a w hF hH)
  cases e with
  | normal =>
    obtain ⟨s, hp, hF', hH'⟩ := hq
    exact K2 s hp a w hF' hH'
  | exit id => exact hq
  | goto l => exact hq
  | ret => exact hq
  | panic ch => exact hq
  | outgrown => exact hq
def GHs (P : Program) (ops : Array Oper) (Q : Exit → Act → World → Prop) (n : Nat) (M : Nat → Prop) (w0 : World) (LS : List Blk) (l : List (Nat × Value)) (L : List Blk) (fuel : Nat) (listed : Array Bool) (rs : List Nat) : Prop :=
  ∀ i ∈ rs, ∀ a w, Fr n l a → Hp M w0 L w → wpOp P ops Q i (fun a' w' => Hp M w0 LS w' ∧ wpAnyH P .any ops Q (Hp M w0 LS) fuel (listed.setIfInBounds i true) a' w') a w
theorem GHs.nil {LS : List Blk} {fuel : Nat} {listed : Array Bool} : GHs P ops Q n M w0 LS l L fuel listed [] := fun _ h => by simp at h
theorem GHs.cons {LS : List Blk} {fuel : Nat} {listed : Array Bool} {rs : List Nat} {σ : Type} {p : σ → Prop} {l' : σ → List (Nat × Value)} {L' : σ → List Blk} {i : Nat} {d : Option Nat} {op : Op} {ty : TypeId} {pos : String} {after : Array Edge}
    (hi : ops[i]? = some ⟨d, op, ty, pos, after, none⟩) (h : Stp P Q n M w0 l L ⟨d, op, ty, pos, after, none⟩ p l' L') (hL : ∀ x, LS.Sublist (L' x))
    (K : ∀ x, p x → GH P ops Q n M w0 LS (l' x) (L' x) fuel (listed.setIfInBounds i true)) (hs : GHs P ops Q n M w0 LS l L fuel listed rs) : GHs P ops Q n M w0 LS l L fuel listed (i :: rs) := fun j hj a w hF hH => by
  rcases List.mem_cons.1 hj with rfl | hj
  · unfold wpOp
    simp only [hi]
    rw [if_pos (by simp [Region.wanted])]
    exact Or.inl (h _ (fun x hx a w hF hH => ⟨hH.sub (hL x), K x hx a w hF hH⟩) a w hF hH)
  · exact hs j hj a w hF hH
theorem GH.many {LS : List Blk} {fuel : Nat} {listed : Array Bool} {rs : List Nat} (hr : Region.ready .any ops listed = rs) (hne : rs ≠ []) (h : GHs P ops Q n M w0 LS l L fuel listed rs) : GH P ops Q n M w0 LS l L (fuel + 1) listed := fun a w hF hH =>
  wpAnyH_all hr hne fun i hi => h i hi a w hF hH
end

theorem min64 (x y : Int) : (if y < x then y else x) = min x y := by rw [Int.min_def]; split <;> split <;> omega
theorem max64 (x y : Int) : (if x < y then y else x) = max x y := by rw [Int.max_def]; split <;> split <;> omega

theorem GC.unroll {P : Program} {Q : Exit → Act → World → Prop} {n : Nat} {M : Nat → Prop} {w0 : World} {l : List (Nat × Value)} {L : List Blk} {c : Code} (k : Nat) (K : GE n M w0 l L (Code.rounds P c Q k)) : GC P Q n M w0 l L (.loop c) := fun a w hF hH => wp_loop_rounds k (K a w hF hH)
theorem GE.round {P : Program} {Q : Exit → Act → World → Prop} {n : Nat} {M : Nat → Prop} {w0 : World} {l : List (Nat × Value)} {L : List Blk} {c : Code} {k : Nat} (K : GC P (Exit.then (Code.rounds P c Q k) Q) n M w0 l L c) : GE n M w0 l L (Code.rounds P c Q (k + 1)) := K

/-! ### Structs compared; bits and shifts -/
section
variable {P : Program} {n : Nat} {M : Nat → Prop} {w0 : World} {l : List (Nat × Value)} {L : List Blk}
/-- A struct type's fields, by name, type and offset. -/
def Sfs (P : Program) (T : TypeId) (fs : List (TypeId × Nat)) : Prop :=
  P.underlying T = some (.struct (P.fieldsOf T)) ∧ P.stoodInHeld T = false ∧ P.eqGuardType P.depth T = false ∧ (P.fieldsOf T).toList.all (fun f => f.name != "_") = true ∧ (P.fieldsOf T).toList.map (fun f => (f.type, f.offset)) = fs
/-- Two cells of a scalar type, compared. -/
def EqC (P : Program) (T : TypeId) (x y : Value) (r : Bool) : Prop := Ag P T false ∧ ∀ w d, (Op.equalIn (d + 1) T x y).run P w = .ok r w
theorem EqC.int {T : TypeId} {k j : IntKind} {x y : Int} (hu : P.underlying T = some (.int j)) : EqC P T (.int k x) (.int k y) (decide (x = y)) := by
  refine ⟨by unfold Ag; rw [hu]; rfl, fun w d => ?_⟩
  simp only [Op.equalIn, Sem.run_bind, run_underlying hu, Result.andThen_ok]
  simp; rfl
theorem EqC.bool {T : TypeId} {x y : Bool} (hu : P.underlying T = some .bool) : EqC P T (.bool x) (.bool y) (x == y) := by
  refine ⟨by unfold Ag; rw [hu]; rfl, fun w d => ?_⟩
  simp only [Op.equalIn, Sem.run_bind, run_underlying hu, Result.andThen_ok]
  simp
/-- Their cells, one by one. -/
inductive EqFs (P : Program) (xs ys : List Value) : List (TypeId × Nat) → Bool → Prop
  | nil : EqFs P xs ys [] true
  | cons {T : TypeId} {o : Nat} {fs : List (TypeId × Nat)} {x y : Value} {r s : Bool} (hx : xs[o]? = some x) (hy : ys[o]? = some y) (h : EqC P T x y r) (t : EqFs P xs ys fs s) : EqFs P xs ys ((T, o) :: fs) (r && s)
theorem EqFs.run {xs ys : List Value} (w : World) (d : Nat) : ∀ (fs : List Field) (gs : List (TypeId × Nat)) (r : Bool), fs.map (fun f => (f.type, f.offset)) = gs → fs.all (fun f => f.name != "_") = true → EqFs P xs ys gs r → (Op.eqFields (d + 1) xs.toArray ys.toArray fs).run P w = .ok r w := by
  intro fs
  induction fs with
  | nil =>
    intro gs r hg _ h
    simp at hg; subst hg; cases h; simp [Op.eqFields]
  | cons f fs ih =>
    intro gs r hg hn h
    simp only [List.map_cons] at hg
    subst hg
    rw [List.all_cons, Bool.and_eq_true] at hn
    cases h with
    | cons hx hy he ht =>
      rw [Op.eqFields, if_pos (by simpa using hn.1)]
      have h1 : ∀ (vs : List Value) (v : Value), vs[f.offset]? = some v → (part f.type vs.toArray f.offset).run P w = .ok v w := by
        intro vs v hv
        unfold part
        rw [Sem.run_bind, he.1.run, Result.andThen_ok]
        simp [hv]
      rw [Sem.run_bind, h1 _ _ hx, Result.andThen_ok, Sem.run_bind, h1 _ _ hy, Result.andThen_ok, Sem.run_bind, he.2 w d, Result.andThen_ok]
      rename_i r s
      cases r
      · simp
      · simpa using ih _ _ rfl hn.2 ht
theorem Ex.eqS {T T' : TypeId} {x y : Operand} {xs ys : List Value} {fs : List (TypeId × Nat)} {r r' : Bool} (hx : opv l x = some (.agg xs.toArray)) (hy : opv l y = some (.agg ys.toArray)) (hT : Sfs P T fs) (h : EqFs P xs ys fs r) (e : r = r') : Ex P n M w0 l L (.binOp .eql T x y T') (.bool r') := fun d ty pos af g a w hF hH => by
  show (do pure (Next.value (← (do eqGuard .eql T x y (a.eval x) (a.eval y); binOp .eql T (a.eval x) (a.eval y)))) : Sem Next).run P w = _
  refine run_v ?_
  subst e
  rw [hF.eval hx, hF.eval hy, Sem.run_bind]
  have hg : (eqGuard .eql T x y (.agg xs.toArray) (.agg ys.toArray)).run P w = .ok () w := by
    unfold eqGuard
    simp [Sem.run_bind, hT.2.2.1]
  rw [hg, Result.andThen_ok]
  show (do pure (.bool (← Op.equal T (.agg xs.toArray) (.agg ys.toArray))) : Sem Value).run P w = _
  rw [Sem.run_bind]
  have he : (Op.equal T (.agg xs.toArray) (.agg ys.toArray)).run P w = .ok r w := by
    unfold Op.equal Op.maxDepth
    rw [run_equalIn_struct (P := P) w 9999 T xs.toArray ys.toArray hT.1 hT.2.1]
    exact EqFs.run w 9998 _ _ _ hT.2.2.2.2 hT.2.2.2.1 h
  rw [he]; rfl
theorem Ex.shr {T T' : TypeId} {x y : Operand} {k j : IntKind} {X Z : Int} {m : Nat} (hx : opv l x = some (.int k X)) (hy : opv l y = some (.int j ((m : Nat) : Int))) (hm : m ≤ k.bits) (hz : X / 2 ^ m = Z) : Ex P n M w0 l L (.binOp .shr T x y T') (.int k Z) :=
  Ex.bin hx hy (by simp) (by simp) fun w => by
    show (Op.shift .shr k X j (m : Int)).run P w = _
    unfold Op.shift
    rw [if_neg (by omega)]
    show (pure (.int k (X.fdiv (2 ^ (min ((m : Nat) : Int).toNat k.bits)))) : Sem Value).run P w = _
    rw [Int.toNat_natCast, Nat.min_eq_left hm, Int.fdiv_eq_ediv_of_nonneg _ (Int.le_of_lt (Int.pow_pos (by decide))), hz]; rfl
theorem Ex.shl {T T' : TypeId} {x y : Operand} {k j : IntKind} {X Z : Int} {m : Nat} (hx : opv l x = some (.int k X)) (hy : opv l y = some (.int j ((m : Nat) : Int))) (hm : m ≤ k.bits) (hz : k.wrap (X * 2 ^ m) = Z) : Ex P n M w0 l L (.binOp .shl T x y T') (.int k Z) :=
  Ex.bin hx hy (by simp) (by simp) fun w => by
    show (Op.shift .shl k X j (m : Int)).run P w = _
    unfold Op.shift
    rw [if_neg (by omega)]
    show (pure (.int k (k.wrap (X * (2 ^ (min ((m : Nat) : Int).toNat k.bits))))) : Sem Value).run P w = _
    rw [Int.toNat_natCast, Nat.min_eq_left hm, hz]; rfl
theorem Ex.bits {o : BinOp} {T T' : TypeId} {x y : Operand} {k : IntKind} {X Y Z : Int} (hx : opv l x = some (.int k X)) (hy : opv l y = some (.int k Y)) (ho : o = .and ∨ o = .or) (hz : k.wrap (if o = .and then (BitVec.ofInt k.bits X &&& BitVec.ofInt k.bits Y).toNat else (BitVec.ofInt k.bits X ||| BitVec.ofInt k.bits Y).toNat : Nat) = Z) : Ex P n M w0 l L (.binOp o T x y T') (.int k Z) :=
  Ex.bin hx hy (by simp) (by simp) fun w => by
    rcases ho with rfl | rfl
    · simp at hz; simp [binOp, Op.intBits, hz]
    · simp at hz; simp [binOp, Op.intBits, hz]
theorem Ex.andn {T T' : TypeId} {x y : Operand} {k : IntKind} {X Y Z : Int} (hx : opv l x = some (.int k X)) (hy : opv l y = some (.int k Y)) (hz : k.wrap (((BitVec.ofInt k.bits X &&& ~~~BitVec.ofInt k.bits Y).toNat : Nat) : Int) = Z) : Ex P n M w0 l L (.binOp .andNot T x y T') (.int k Z) :=
  Ex.bin hx hy (by simp) (by simp) fun w => by
    rw [← hz]; simp [binOp, Op.intBits]
/-- A mask of m low bits. -/
theorem andm {X : Int} (m : Nat) {Z : Int} (h0 : 0 ≤ X) (h1 : X < 4294967296) (hm : m ≤ 32) (hz : X % 2 ^ m = Z) {Y : Int} (hY : Y = 2 ^ m - 1) :
    IntKind.u32.wrap (if BinOp.and = BinOp.and then (BitVec.ofInt IntKind.u32.bits X &&& BitVec.ofInt IntKind.u32.bits Y).toNat else (BitVec.ofInt IntKind.u32.bits X ||| BitVec.ofInt IntKind.u32.bits Y).toNat : Nat) = Z := by
  rw [if_pos rfl]
  have e32 : IntKind.u32.bits = 32 := rfl
  obtain ⟨a, rfl⟩ := Int.eq_ofNat_of_zero_le h0
  have hp : (2 : Nat) ^ m ≤ 2 ^ 32 := Nat.pow_le_pow_right (by decide) hm
  have h2 : 1 ≤ (2 : Nat) ^ m := Nat.one_le_two_pow
  have hY' : Y = (((2 : Nat) ^ m - 1 : Nat) : Int) := by rw [hY]; push_cast [h2]; rfl
  subst hY'
  rw [BitVec.toNat_and, BitVec.toNat_ofInt, BitVec.toNat_ofInt, e32, ← hz]
  have e1 : (((a : Nat) : Int) % ((2 ^ 32 : Nat) : Int)).toNat = a := by omega
  have e2 : ((((2 : Nat) ^ m - 1 : Nat) : Int) % ((2 ^ 32 : Nat) : Int)).toNat = 2 ^ m - 1 := by
    rw [Int.emod_eq_of_lt (by omega) (by omega)]; omega
  rw [e1, e2, Nat.and_two_pow_sub_one_eq_mod, wu32]
  have h3 : a % 2 ^ m ≤ a := Nat.mod_le _ _
  have h4 : ((a % 2 ^ m : Nat) : Int) = (a : Int) % 2 ^ m := by push_cast; rfl
  rw [← h4]; omega
/-- Bits beside bits: a sum. -/
theorem orm {X Y : Int} (m : Nat) {Z : Int} (hX : 0 ≤ X ∧ X < 4294967296) (hY : 0 ≤ Y ∧ Y < 2 ^ m) (hm : m ≤ 32) (hd : X % 2 ^ m = 0) (hz : X + Y = Z) :
    IntKind.u32.wrap (if BinOp.or = BinOp.and then (BitVec.ofInt IntKind.u32.bits X &&& BitVec.ofInt IntKind.u32.bits Y).toNat else (BitVec.ofInt IntKind.u32.bits X ||| BitVec.ofInt IntKind.u32.bits Y).toNat : Nat) = Z := by
  rw [if_neg (by decide)]
  have e32 : IntKind.u32.bits = 32 := rfl
  obtain ⟨a, rfl⟩ := Int.eq_ofNat_of_zero_le hX.1
  obtain ⟨b, rfl⟩ := Int.eq_ofNat_of_zero_le hY.1
  have hp : (2 : Nat) ^ m ≤ 2 ^ 32 := Nat.pow_le_pow_right (by decide) hm
  have hY2 : b < 2 ^ m := by have := hY.2; exact_mod_cast this
  have hd2 : a % 2 ^ m = 0 := by exact_mod_cast hd
  rw [BitVec.toNat_or, BitVec.toNat_ofInt, BitVec.toNat_ofInt, e32, ← hz]
  have e1 : (((a : Nat) : Int) % ((2 ^ 32 : Nat) : Int)).toNat = a := by omega
  have e2 : (((b : Nat) : Int) % ((2 ^ 32 : Nat) : Int)).toNat = b := by omega
  obtain ⟨c, rfl⟩ : ∃ c, a = 2 ^ m * c := ⟨a / 2 ^ m, by have := Nat.div_add_mod a (2 ^ m); omega⟩
  rw [e1, e2, ← Nat.two_pow_add_eq_or_of_lt hY2, wu32]
  have h5 : 2 ^ m * c + b < 4294967296 := by
    have h6 : 2 ^ m * c + 2 ^ m ≤ 2 ^ 32 := by
      have h7 : (2 : Nat) ^ 32 = 2 ^ m * 2 ^ (32 - m) := by rw [← Nat.pow_add]; congr 1; omega
      have h8 : c < 2 ^ (32 - m) := by
        apply Nat.lt_of_mul_lt_mul_left (a := 2 ^ m); rw [← h7]; omega
      rw [h7, ← Nat.mul_succ]; exact Nat.mul_le_mul_left _ h8
    omega
  generalize 2 ^ m * c = q at h5 ⊢; omega
theorem wf_u32 {a : Int} (h : (Lit.int .u32 a).wf = true) : 0 ≤ a ∧ a < 4294967296 := by
  have e1 : IntKind.u32.min = 0 := by decide
  have e2 : IntKind.u32.max = 4294967295 := by decide
  simp [Lit.wf, e1, e2] at h; omega
theorem wf_i64 {a : Int} (h : (Lit.int .i64 a).wf = true) : -9223372036854775808 ≤ a ∧ a ≤ 9223372036854775807 := by
  have e1 : IntKind.i64.min = -9223372036854775808 := by decide
  have e2 : IntKind.i64.max = 9223372036854775807 := by decide
  simp [Lit.wf, e1, e2] at h; omega
theorem wu32b {z : Int} (h : 0 ≤ z ∧ z ≤ 4294967295) : IntKind.u32.wrap z = z := by rw [wu32]; omega
theorem wu64b {z : Int} (h : 0 ≤ z ∧ z ≤ 18446744073709551615) : IntKind.u64.wrap z = z := by rw [wu64]; omega
theorem quoU32 {x y : Int} (hx : 0 ≤ x) (hy : 1 ≤ y) (h : x ≤ 4294967295) : IntKind.u32.wrap (x.tdiv y) = x / y := by
  rw [Int.tdiv_eq_ediv_of_nonneg hx]
  have h1 : 0 ≤ x / y := Int.ediv_nonneg hx (by omega)
  have h2 : x / y ≤ x := Int.ediv_le_self _ hx
  exact wu32b (by omega)
theorem quoU64 {x y : Int} (hx : 0 ≤ x) (hy : 1 ≤ y) (h : x ≤ 18446744073709551615) : IntKind.u64.wrap (x.tdiv y) = x / y := by
  rw [Int.tdiv_eq_ediv_of_nonneg hx]
  have h1 : 0 ≤ x / y := Int.ediv_nonneg hx (by omega)
  have h2 : x / y ≤ x := Int.ediv_le_self _ hx
  exact wu64b (by omega)
theorem tmod2 (x : Int) : x.tmod 2 = 0 ↔ x % 2 = 0 := by
  constructor <;> intro h
  · exact Int.emod_eq_zero_of_dvd (Int.dvd_of_tmod_eq_zero h)
  · exact Int.tmod_eq_zero_of_dvd (Int.dvd_of_emod_eq_zero h)
theorem tdiv2 {x : Int} (h : x % 2 = 0) : x.tdiv 2 = x / 2 := Int.tdiv_eq_ediv_of_dvd (Int.dvd_of_emod_eq_zero h)
end

/-! ### Functions that the model itself gives; floats compared -/
section
variable {P : Program} {n : Nat} {M : Nat → Prop} {w0 : World} {l : List (Nat × Value)} {L : List Blk}
/-- A function without a body, whose entry the model has. -/
def Pex (P : Program) (f : FuncId) (e : Array Value → Sem Value) : Prop :=
  ∃ fn, P.funcs[f]? = some fn ∧ (fn.name == "runtime.NumGoroutine") = false ∧ fn.body.isNone = true ∧ Extern.findNext fn = none ∧ Extern.find fn = some e
theorem Ex.ext {x : Operand} {args : List Operand} {tys : Array TypeId} {f : FuncId} {caps : Array Value} {vs : List Value} {e : Array Value → Sem Value} {v : Value}
    (hx : opv l x = some (.func (.func f) #[] caps)) (ha : opvs l args = some vs) (hf : Pex P f e) (hr : ∀ w, (e (vs.toArray ++ caps)).run P w = .ok v w) :
    Ex P n M w0 l L (.call ⟨.value x, args.toArray, tys⟩) v := fun d ty pos af g a w hF hH => by
  obtain ⟨fn, h1, h2, h3, h4, h5⟩ := hf
  show (do let d ← resolve a.eval ⟨.value x, args.toArray, tys⟩ ty; invoke d.target d.args : Sem Next).run P w = _
  unfold resolve
  simp only [hF.eval hx, hF.evals args vs ha, Deferred.ofValue]
  simp only [Sem.run_bind, Sem.run_pure, Result.andThen_ok, invoke]
  have := run_callFunc_extern h1 h2 h3 h4 h5 (vs.toArray ++ caps) w
  simpa [hr w] using this
theorem Ex.fneq {T T' : TypeId} {x y : Operand} {k : FloatKind} {X Y : Nat} {r : Bool} (hx : opv l x = some (.float k X)) (hy : opv l y = some (.float k Y)) (h : (k.format.order X Y != some .eq) = r) : Ex P n M w0 l L (.binOp .neq T x y T') (.bool r) :=
  Ex.bin hx hy (by simp) (by simp) fun w => by rw [← h]; simp [binOp, Op.floatCmp]
theorem Ex.feql {T T' : TypeId} {x y : Operand} {k : FloatKind} {X Y : Nat} {r : Bool} (hx : opv l x = some (.float k X)) (hy : opv l y = some (.float k Y)) (h : (k.format.order X Y == some .eq) = r) : Ex P n M w0 l L (.binOp .eql T x y T') (.bool r) :=
  Ex.bin hx hy (by simp) (by simp) fun w => by rw [← h]; simp [binOp, Op.floatCmp]
theorem Ex.flss {T T' : TypeId} {x y : Operand} {k : FloatKind} {X Y : Nat} {r : Bool} (hx : opv l x = some (.float k X)) (hy : opv l y = some (.float k Y)) (h : (k.format.order X Y == some .lt) = r) : Ex P n M w0 l L (.binOp .lss T x y T') (.bool r) :=
  Ex.bin hx hy (by simp) (by simp) fun w => by rw [← h]; simp [binOp, Op.floatCmp]
end

/-! ### Floats reckoned and converted; fields of values; elements of arrays -/
section
variable {P : Program} {n : Nat} {M : Nat → Prop} {w0 : World} {l : List (Nat × Value)} {L : List Blk}
theorem Ex.fleq {T T' : TypeId} {x y : Operand} {k : FloatKind} {X Y : Nat} {r : Bool} (hx : opv l x = some (.float k X)) (hy : opv l y = some (.float k Y)) (h : (k.format.order X Y == some .lt || k.format.order X Y == some .eq) = r) : Ex P n M w0 l L (.binOp .leq T x y T') (.bool r) :=
  Ex.bin hx hy (by simp) (by simp) fun w => by rw [← h]; simp [binOp, Op.floatCmp]
theorem Ex.fgtr {T T' : TypeId} {x y : Operand} {k : FloatKind} {X Y : Nat} {r : Bool} (hx : opv l x = some (.float k X)) (hy : opv l y = some (.float k Y)) (h : (k.format.order X Y == some .gt) = r) : Ex P n M w0 l L (.binOp .gtr T x y T') (.bool r) :=
  Ex.bin hx hy (by simp) (by simp) fun w => by rw [← h]; simp [binOp, Op.floatCmp]
theorem Ex.fgeq {T T' : TypeId} {x y : Operand} {k : FloatKind} {X Y : Nat} {r : Bool} (hx : opv l x = some (.float k X)) (hy : opv l y = some (.float k Y)) (h : (k.format.order X Y == some .gt || k.format.order X Y == some .eq) = r) : Ex P n M w0 l L (.binOp .geq T x y T') (.bool r) :=
  Ex.bin hx hy (by simp) (by simp) fun w => by rw [← h]; simp [binOp, Op.floatCmp]
theorem Ex.farith {op : BinOp} {T T' : TypeId} {x y : Operand} {k : FloatKind} {X Y r : Nat} (hx : opv l x = some (.float k X)) (hy : opv l y = some (.float k Y)) (h : floatBits op k X Y = some r) : Ex P n M w0 l L (.binOp op T x y T') (.float k r) :=
  Ex.bin hx hy (by simp) (by simp) fun w => run_float_arith w op T k X Y r h
theorem Ex.conv' {S T : TypeId} {x : Operand} {X v : Value} (hx : opv l x = some X) (h : ∀ w, (convert S T X).run P w = .ok v w) : Ex P n M w0 l L (.convert S T x) v := fun d ty pos af g a w hF hH => by
  refine run_v ?_
  show (convert S T (a.eval x)).run P w = _
  rw [hF.eval hx]; exact h w
theorem Ex.cff {S T : TypeId} {x : Operand} {s k : FloatKind} {b r : Nat} {dS : TypeDesc} (hx : opv l x = some (.float s b)) (hS : P.underlying S = some dS) (hT : P.underlying T = some (.float k)) (h : floatToFloatBits s b k = some r) : Ex P n M w0 l L (.convert S T x) (.float k r) :=
  Ex.conv' hx fun w => run_convert_float_float w S T s k b r (by rw [hS]; rfl) hT h
theorem Ex.cif {S T : TypeId} {x : Operand} {q : IntKind} {k : FloatKind} {m : Int} {dS : TypeDesc} (hx : opv l x = some (.int q m)) (hS : P.underlying S = some dS) (hT : P.underlying T = some (.float k)) : Ex P n M w0 l L (.convert S T x) (.float k (floatOfInt k m)) :=
  Ex.conv' hx fun w => run_convert_int_float w S T q k m (by rw [hS]; rfl) hT
theorem Ex.cfi {S T : TypeId} {x : Operand} {s : FloatKind} {k : IntKind} {b : Nat} {m : Int} {dS : TypeDesc} (hx : opv l x = some (.float s b)) (hS : P.underlying S = some dS) (hT : P.underlying T = some (.int k)) (h : floatToIntVal s b k = some m) : Ex P n M w0 l L (.convert S T x) (.int k m) :=
  Ex.conv' hx fun w => run_convert_float_int w S T s k b m (by rw [hS]; rfl) hT h
theorem Ex.field1 {T : TypeId} {x : Operand} {i : Nat} {fs : Array Field} {f : Field} {cs : List Value} {v : Value} (hx : opv l x = some (.agg cs.toArray)) (hT : P.underlying T = some (.struct fs)) (hf : fs[i]? = some f) (hA : Ag P f.type false) (hv : cs[f.offset]? = some v) : Ex P n M w0 l L (.field T x i) v := fun d ty pos af g a w hF hH => by
  refine run_v ?_
  show (Instr.field T (a.eval x) i).run P w = _
  rw [hF.eval hx]
  simp [Instr.field, under hT, hf, part, asAgg, hA.run, hv]
theorem Ex.indexArr {T E : TypeId} {x y : Operand} {b o s m : Nat} {k : IntKind} {i : Int} (hx : opv l x = some (.pointer (some ⟨b, o, none⟩))) (hy : opv l y = some (.int k i)) (hT : P.underlying T = some (.array m E)) (hs : Sz P E s) (h0 : 0 ≤ i) (h1 : i < m) :
    Ex P n M w0 l L (.indexAddr T x y) (.pointer (some ⟨b, o + i.toNat * s, none⟩)) := fun d ty pos af g a w hF hH => by
  refine run_v ?_
  show (Instr.indexAt T (a.eval x) (a.eval y)).run P w = _
  rw [hF.eval hx, hF.eval hy]
  simp [Instr.indexAt, asIntOf, under hT, hs.run, h0, h1, addr_add, Instr.sureAddr]
/-- An element of an array's value. -/
theorem Ex.index1 {T E : TypeId} {x y : Operand} {s m : Nat} {k : IntKind} {i : Int} {cs : List Value} {v : Value} (hx : opv l x = some (.agg cs.toArray)) (hy : opv l y = some (.int k i)) (hT : P.underlying T = some (.array m E)) (hs : Sz P E s) (hA : Ag P E false) (h0 : 0 ≤ i) (h1 : i < m) (hv : cs[i.toNat * s]? = some v) :
    Ex P n M w0 l L (.index T x y) v := fun d ty pos af g a w hF hH => by
  refine run_v ?_
  show (Instr.index T (a.eval x) (a.eval y)).run P w = _
  rw [hF.eval hx, hF.eval hy]
  simp [Instr.index, asIntOf, under hT, hs.run, h0, h1, part, hA.run, hv]
theorem Ex.indexA {T E : TypeId} {x y : Operand} {s m : Nat} {k : IntKind} {i : Int} {cs vs : List Value} (hx : opv l x = some (.agg cs.toArray)) (hy : opv l y = some (.int k i)) (hT : P.underlying T = some (.array m E)) (hs : Sz P E s) (hA : Ag P E true) (h0 : 0 ≤ i) (h1 : i < m) (hv : (cs.drop (i.toNat * s)).take s = vs) :
    Ex P n M w0 l L (.index T x y) (.agg vs.toArray) := fun d ty pos af g a w hF hH => by
  refine run_v ?_
  show (Instr.index T (a.eval x) (a.eval y)).run P w = _
  rw [hF.eval hx, hF.eval hy, ← hv]
  simp [Instr.index, asIntOf, under hT, hs.run, h0, h1, part, hA.run]
end

/-! ### nil checks, slices of slices, copy; calls that change blocks that the caller owns -/
section
variable {P : Program} {Q : Exit → Act → World → Prop} {n : Nat} {M : Nat → Prop} {w0 : World} {l : List (Nat × Value)} {L : List Blk}
theorem Ex.nilCheck {x : Operand} {ad : Addr} (hx : opv l x = some (.pointer (some ad))) : Ex P n M w0 l L (.nilCheck x) (.pointer (some ad)) := fun d ty pos af g a w hF hH => by
  show (match a.eval x with
    | .pointer none | .nilIface | .nilFunc => runtimePanic .nilDeref
    | .func (.method name) first captured =>
      match (first[0]? : Option Value) with
      | some .nilIface => runtimePanic .nilDeref
      | some (.iface t w) => do
        if (← nilAhead ((← program).types.size + Made.depth) t w name) != some false then
          unsupported _
        pure (.value (.func (.method name) first captured))
      | _ => pure (.value (.func (.method name) first captured))
    | x => pure (.value x) : Sem Next).run P w = _
  rw [hF.eval hx]; rfl
theorem Ex.sliceH {T E : TypeId} {x y : Operand} {ad : Option Addr} {len cap s : Nat} {k : IntKind} {h : Int} {m : Nat} (hx : opv l x = some (.slice ad len cap)) (hy : opv l y = some (.int k h)) (hT : P.underlying T = some (.slice E)) (hs : Sz P E s) (hh : h = ((m : Nat) : Int)) (h2 : m ≤ cap) :
    Ex P n M w0 l L (.slice T x none (some y) none) (.slice ad m cap) := fun d ty pos af g a w hF hH => by
  refine run_v ?_
  show (Instr.sliceAt T (a.eval x) none (some (a.eval y)) none).run P w = _
  rw [hF.eval hx, hF.eval hy]
  have hel : P.elem T = E := by simp [Program.elem, hT]
  have hT' : P.underlying T = some (.slice (P.elem T)) := by rw [hel]; exact hT
  subst hh
  rw [run_sliceAt_slice w T _ _ _ _ hT', run_slice_h w T ad len cap hT' k _ (by omega) (by omega), hel, hs.run]
  simp [sliced]
  intro _
  cases ad with
  | none => rfl
  | some q => simp [Addr.add]
/-- copy into an own block; the source is what was there, or nothing. -/
theorem Stp.copyO {d : Nat} {T T2 E ty : TypeId} {x y : Operand} {pos : String} {af : Array Edge} {g : Option (Nat × Bool)} {i b la ca ls cs2 : Nat} {ad : Option Addr} {cs vs : List Value} {L1 : List Blk} (hx : opv l x = some (.slice (some ⟨b, 0, none⟩) la ca)) (hy : opv l y = some (.slice ad ls cs2))
    (hT : P.underlying T = some (.slice E)) (hs : Sz P E 1) (hL : L[i]? = some ⟨b, cs, E, true⟩) (hsrc : ls = 0 ∨ ∃ b2 o2, ad = some ⟨b2, o2, none⟩ ∧ ∀ w, Hp M w0 L w → Rd w b2 o2 vs) (hvs : vs.length = ls) (hla : ls ≤ la) (hl : ls ≤ cs.length) (h1 : ∀ v ∈ vs, v.oneCell' = true) (hL1 : L.set i ⟨b, splice cs 0 vs, E, true⟩ = L1) (hd : d < n) :
    Stp P Q n M w0 l L ⟨some d, .call ⟨.builtin .copy, #[x, y], #[T, T2]⟩, ty, pos, af, g⟩ (σ := Unit) (fun _ => True) (fun _ => (d, .int .i64 ((ls : Nat) : Int)) :: l) (fun _ => L1) :=
  Stp.mk fun a w hF hH => by
    subst hL1
    have hrun : ∀ v w', (Builtin.copy_ #[T, T2] ty #[.slice (some ⟨b, 0, none⟩) la ca, .slice ad ls cs2]).run P w = .ok v w' →
        (execOp a.eval ⟨some d, .call ⟨.builtin .copy, #[x, y], #[T, T2]⟩, ty, pos, af, g⟩).run P w = .ok (.value v) w' := fun v w' hr => by
      show (do let d ← resolve a.eval ⟨.builtin .copy, #[x, y], #[T, T2]⟩ ty; invoke d.target d.args : Sem Next).run P w = _
      simp only [resolve, Sem.run_bind, Sem.run_pure, Result.andThen_ok, invoke, builtin]
      simp only [List.map_toArray, List.map_cons, List.map_nil, hF.eval hx, hF.eval hy, hr, Result.andThen_ok]
    by_cases h0 : ls = 0
    · subst h0
      have hr := run_copy_none (P := P) w T T2 ty E (some ⟨b, 0, none⟩) ad la ca 0 cs2 hT hs (by simp)
      refine ⟨(), _, _, hrun _ _ hr, trivial, hF.put hd _, ?_⟩
      have hv0 : vs = [] := List.eq_nil_of_length_eq_zero hvs
      rw [hv0, splice_nil]
      have : L.set i ⟨b, cs, E, true⟩ = L := by
        obtain ⟨hi, hg⟩ := List.getElem?_eq_some_iff.1 hL
        rw [← hg]; simp
      rw [this]; exact hH
    · rcases hsrc with h | ⟨b2, o2, rfl, hrd⟩
      · exact absurd h h0
      · obtain ⟨w', hst, hH'⟩ := run_storeCells (P := P) (o := 0) vs 0 L cs w hH hL (by simp only [hvs]; omega) h1
        have hld := run_loadCells_list (P := P) w ⟨b2, o2, none⟩ vs (fun j v hj => by rw [addr_add]; exact hrd w hH j v hj)
        rw [hvs] at hld
        have hmin : Nat.min ls la = ls := Nat.min_eq_left hla
        refine ⟨(), _, _, hrun (.int .i64 ((ls : Nat) : Int)) w' ?_, trivial, hF.put hd _, hH'⟩
        simp [Builtin.copy_, run_underlying hT, Builtin.lenOf, Builtin.firstCells, hs.run, hmin, hld, hst, goInt]
/-- A body entered in the middle of a caller's frame. -/
theorem enterF {f : FuncId} {fn : Func} {c : Code} {args : Array Value} {R : Ending → World → Prop} (hf : P.funcs[f]? = some fn) (hb : fn.body = some c) (hn : args.size + (fn.ntmps - args.size) = n) (hargs : Args args l)
    {w : World} (hH : Hp M w0 L w) (h : GC P (bodyPost P fn R) n M w0 l L c) : Calls P f args w R := by
  refine calls_of_wp hf hb (h _ w ⟨rfl, by simpa using hn, fun t v ht => ?_⟩ hH)
  have := hargs t v ht
  have hlt := (Array.getElem?_eq_some_iff.1 this).1
  simp only [Array.getElem?_append, hlt, if_true]
  exact this
/-- What a call leaves in its caller's frame. -/
def Frm {σ : Type} (M : Nat → Prop) (w0 : World) (p : σ → Prop) (v : σ → Value) (L' : σ → List Blk) (e : Ending) (w' : World) : Prop := ∃ x, e = .returned (v x) ∧ p x ∧ Hp M w0 (L' x) w'
theorem Hp.frm {w' : World} {σ : Type} {p : σ → Prop} {v : σ → Value} {L' : σ → List Blk} (h : Hp M w0 L w') (x : σ) (hp : p x) {u : Value} (hv : u = v x) (hs : (L' x).Sublist L) : Frm M w0 p v L' (.returned u) w' :=
  ⟨x, by rw [hv], hp, h.sub hs⟩
/-- Known blocks in another order, a rest behind them. -/
theorem Hp.pickT {w : World} {idx : List Nat} {A A' R : List Blk} (h : Hp M w0 (A ++ R) w) (hn : idx.Nodup) (hL : Sx.pick A idx = some A') : Hp M w0 (A' ++ R) w := by
  have hA := (h.sub (List.sublist_append_left A R)).pick hn hL
  have hp := List.pairwise_append.1 h.2.2
  have hsub : ∀ k ∈ A', k ∈ A := fun k hk => by
    obtain ⟨i, _, hi⟩ := pick_mem hL k hk
    exact List.mem_of_getElem? hi
  refine ⟨h.1, fun k hk => ?_, List.pairwise_append.2 ⟨hA.2.2, hp.2.1, fun a ha b hb => hp.2.2 a (hsub a ha) b hb⟩⟩
  rcases List.mem_append.1 hk with hk | hk
  · exact hA.2.1 k hk
  · exact h.2.1 k (List.mem_append.2 (Or.inr hk))
theorem GC.pick {c : Code} {idx : List Nat} {L' : List Blk} (hn : idx.Nodup) (hL : Sx.pick L idx = some L') (K : GC P Q n M w0 l L' c) : GC P Q n M w0 l L c := fun a w hF hH => K a w hF (hH.pick hn hL)
/-! Guarded operations of a region that draws. -/
theorem GH.takeG {ops : Array Oper} {LS : List Blk} {fuel : Nat} {listed : Array Bool} (i : Nat) {d : Nat} {op : Op} {ty : TypeId} {pos : String} {after : Array Edge} {v : Value} {j tj : Nat} {b : Bool} (hi : ops[i]? = some ⟨some d, op, ty, pos, after, some (j, b)⟩)
    (hj : (ops[j]?).bind (·.dst) = some tj) (ht : l.lookup tj = some (.bool b))
    (hs : Region.noSelect ops = true) (hf : Region.free .any ops listed i = true) (hr : (Region.ready .any ops listed).contains i = true)
    (hQ : ∀ (c : List PanicEntry) (a : Act) (w : World), Q (.panic c) (a.put (some d) v) w → Q (.panic c) a w)
    (hE : Ex P n M w0 l LS op v) (hL : LS.Sublist L) (hd : d < n)
    (K : GH P ops Q n M w0 LS ((d, v) :: l) L fuel (listed.setIfInBounds i true)) : GH P ops Q n M w0 LS l L (fuel + 1) listed := fun a w hF hH =>
  wpAnyH_take hi hs hf hr hQ (Or.inl ⟨by simp [Region.wanted, yielded_of hF hj ht], fun w hw => hE _ _ _ _ _ a w hF hw⟩) (hH.sub hL) (K _ _ (hF.put hd v) hH)
theorem GH.skipG {ops : Array Oper} {LS : List Blk} {fuel : Nat} {listed : Array Bool} (i : Nat) {d : Nat} {op : Op} {ty : TypeId} {pos : String} {after : Array Edge} {j tj : Nat} {b c : Bool} (hi : ops[i]? = some ⟨some d, op, ty, pos, after, some (j, c)⟩)
    (hj : (ops[j]?).bind (·.dst) = some tj) (ht : l.lookup tj = some (.bool b)) (hne : (b == c) = false)
    (hs : Region.noSelect ops = true) (hf : Region.free .any ops listed i = true) (hr : (Region.ready .any ops listed).contains i = true)
    (hQ : ∀ (c : List PanicEntry) (a : Act) (w : World), Q (.panic c) (a.put (some d) undef) w → Q (.panic c) a w) (hL : LS.Sublist L) (hd : d < n)
    (K : GH P ops Q n M w0 LS ((d, undef) :: l) L fuel (listed.setIfInBounds i true)) : GH P ops Q n M w0 LS l L (fuel + 1) listed := fun a w hF hH =>
  wpAnyH_take hi hs hf hr hQ (Or.inr ⟨by simpa [Region.wanted, yielded_of hF hj ht] using hne, rfl⟩) (hH.sub hL) (K _ _ (hF.put hd undef) hH)
theorem GH.skipU {ops : Array Oper} {LS : List Blk} {fuel : Nat} {listed : Array Bool} (i : Nat) {d : Nat} {op : Op} {ty : TypeId} {pos : String} {after : Array Edge} {j tj : Nat} {c : Bool} (hi : ops[i]? = some ⟨some d, op, ty, pos, after, some (j, c)⟩)
    (hj : (ops[j]?).bind (·.dst) = some tj) (ht : l.lookup tj = some undef)
    (hs : Region.noSelect ops = true) (hf : Region.free .any ops listed i = true) (hr : (Region.ready .any ops listed).contains i = true)
    (hQ : ∀ (c : List PanicEntry) (a : Act) (w : World), Q (.panic c) (a.put (some d) undef) w → Q (.panic c) a w) (hL : LS.Sublist L) (hd : d < n)
    (K : GH P ops Q n M w0 LS ((d, undef) :: l) L fuel (listed.setIfInBounds i true)) : GH P ops Q n M w0 LS l L (fuel + 1) listed := fun a w hF hH =>
  wpAnyH_take hi hs hf hr hQ (Or.inr ⟨by
    have hy : yielded ops a.tmps j = none := by
      unfold yielded
      rw [hj]
      simp only [Option.bind_some, hF.2.2 _ _ ht]
      rfl
    simp [Region.wanted, hy], rfl⟩) (hH.sub hL) (K _ _ (hF.put hd undef) hH)
theorem GH.oneG {ops : Array Oper} {LS : List Blk} {fuel : Nat} {listed : Array Bool} {σ : Type} {p : σ → Prop} {l' : σ → List (Nat × Value)} {L' : σ → List Blk} (i : Nat) {d : Option Nat} {op : Op} {ty : TypeId} {pos : String} {after : Array Edge} {j tj : Nat} {b : Bool}
    (hi : ops[i]? = some ⟨d, op, ty, pos, after, some (j, b)⟩) (hj : (ops[j]?).bind (·.dst) = some tj) (ht : l.lookup tj = some (.bool b)) (hr : Region.ready .any ops listed = [i])
    (h : Stp P Q n M w0 l L ⟨d, op, ty, pos, after, some (j, b)⟩ p l' L') (hL : ∀ x, LS.Sublist (L' x))
    (K : ∀ x, p x → GH P ops Q n M w0 LS (l' x) (L' x) fuel (listed.setIfInBounds i true)) : GH P ops Q n M w0 LS l L (fuel + 1) listed := fun a w hF hH =>
  wpAnyH_all hr (by simp) fun k hk => by
    obtain rfl : k = i := by simpa using hk
    unfold wpOp
    simp only [hi]
    rw [if_pos (by simp [Region.wanted, yielded_of hF hj ht])]
    exact Or.inl (h _ (fun x hx a w hF hH => ⟨hH.sub (hL x), K x hx a w hF hH⟩) a w hF hH)
end

/-! ### Values of interfaces, and calls through them -/
section
variable {P : Program} {Q : Exit → Act → World → Prop} {n : Nat} {M : Nat → Prop} {w0 : World} {l : List (Nat × Value)} {L : List Blk}
theorem Ex.ifaceS {T : TypeId} {x : Operand} {X : Value} {fs : Array Field} (hx : opv l x = some X) (hT : P.underlying T = some (.struct fs)) : Ex P n M w0 l L (.makeInterface T x) (.iface T X) := fun d ty pos af g a w hF hH => by
  refine run_v ?_
  show (Instr.makeInterface T (a.eval x)).run P w = _
  rw [hF.eval hx]
  simp [Instr.makeInterface, under hT]
theorem Stp.invoke {d : Nat} {x : Operand} {name : String} {args : List Operand} {tys : Array TypeId} {ty : TypeId} {pos : String} {af : Array Edge} {g : Option (Nat × Bool)} {f : FuncId} {R : Value} {vs : List Value} {as : Array Value} {σ : Type} {p : σ → Prop} {v : σ → Value} {L' : σ → List Blk}
    (hx : opv l x = some R) (ha : opvs l args = some vs) (hm : ∀ w, (Go.invoke (.fn (.method name) #[]) (#[R] ++ vs.toArray)).run P w = .ok (.enter f as) w) (hd : d < n)
    (hc : ∀ w, Hp M w0 L w → Calls P f as w fun e w' => ∃ x, e = .returned (v x) ∧ p x ∧ Hp M w0 (L' x) w') :
    Stp P Q n M w0 l L ⟨some d, .call ⟨.invoke x name, args.toArray, tys⟩, ty, pos, af, g⟩ p (fun x => (d, v x) :: l) L' := fun K hK a w hF hH => by
  have hrun : (execOp a.eval ⟨some d, .call ⟨.invoke x name, args.toArray, tys⟩, ty, pos, af, g⟩).run P w = .ok (.enter f as) w := by
    show (do let d ← resolve a.eval ⟨.invoke x name, args.toArray, tys⟩ ty; Go.invoke d.target d.args : Sem Next).run P w = _
    unfold resolve
    simp only [hF.eval hx, hF.evals args vs ha, Sem.run_bind, Sem.run_pure, Result.andThen_ok]
    exact hm w
  unfold Oper.wp
  rw [hrun, Oper.upon_enter]
  refine (hc w hH).mono ?_
  rintro e w' ⟨x, rfl, hp, hH'⟩
  exact hK x hp _ _ (hF.put hd _) hH'
theorem Stp.invokeR {d : Nat} {x : Operand} {name : String} {args : List Operand} {tys : Array TypeId} {ty : TypeId} {pos : String} {af : Array Edge} {g : Option (Nat × Bool)} {f : FuncId} {R : Value} {vs : List Value} {as : Array Value} {σ : Type} {p : σ → Prop} {v : σ → Value} {N : σ → List Blk}
    (hx : opv l x = some R) (ha : opvs l args = some vs) (hm : ∀ w, (Go.invoke (.fn (.method name) #[]) (#[R] ++ vs.toArray)).run P w = .ok (.enter f as) w) (hd : d < n)
    (hc : ∀ w, Hp M w0 L w → Calls P f as w (Ret w p v N)) :
    Stp P Q n M w0 l L ⟨some d, .call ⟨.invoke x name, args.toArray, tys⟩, ty, pos, af, g⟩ p (fun x => (d, v x) :: l) (fun x => N x ++ L) :=
  Stp.invoke hx ha hm hd fun w hH => (hc w hH).mono fun e w' h => by
    obtain ⟨x, he, hp, hn⟩ := h
    exact ⟨x, he, hp, hH.news hn⟩
theorem madeOne (v : Value) (n : Nat) : (madeCells [v].toArray (n * 1)).toList = List.replicate n v := by
  apply List.ext_getElem
  · simp [madeCells]
  · intro i h1 h2
    simp [madeCells, Nat.mod_one]
end

/-! ### A store into a block at a place known by its number -/
section
variable {P : Program} {Q : Exit → Act → World → Prop} {n : Nat} {M : Nat → Prop} {w0 : World} {l : List (Nat × Value)}
theorem Stp.st0 {R : List Blk} {T ty : TypeId} {x y : Operand} {pos : String} {af : Array Edge} {g : Option (Nat × Bool)} {b o : Nat} {cs cs' : List Value} {T0 : TypeId} {v : Value} {vs : List Value} (hx : opv l x = some (.pointer (some ⟨b, o, none⟩))) (hy : opv l y = some v) (hv : v.cells.toList = vs) (hS : Sz P T vs.length) (hl : Nat.ble (o + vs.length) cs.length = true) (h1 : vs.all (·.oneCell') = true) (hc : splice cs o vs = cs') :
    Stp P Q n M w0 l (⟨b, cs, T0, true⟩ :: R) ⟨none, .store T x y, ty, pos, af, g⟩ (σ := Unit) (fun _ => True) (fun _ => l) (fun _ => ⟨b, cs', T0, true⟩ :: R) :=
  Stp.storeL (i := 0) hx hy hv hS rfl hl h1 (by rw [hc]; rfl)
theorem Stp.st1 {k0 : Blk} {R : List Blk} {T ty : TypeId} {x y : Operand} {pos : String} {af : Array Edge} {g : Option (Nat × Bool)} {b o : Nat} {cs cs' : List Value} {T0 : TypeId} {v : Value} {vs : List Value} (hx : opv l x = some (.pointer (some ⟨b, o, none⟩))) (hy : opv l y = some v) (hv : v.cells.toList = vs) (hS : Sz P T vs.length) (hl : Nat.ble (o + vs.length) cs.length = true) (h1 : vs.all (·.oneCell') = true) (hc : splice cs o vs = cs') :
    Stp P Q n M w0 l (k0 :: ⟨b, cs, T0, true⟩ :: R) ⟨none, .store T x y, ty, pos, af, g⟩ (σ := Unit) (fun _ => True) (fun _ => l) (fun _ => k0 :: ⟨b, cs', T0, true⟩ :: R) :=
  Stp.storeL (i := 1) hx hy hv hS rfl hl h1 (by rw [hc]; rfl)
theorem Stp.st2 {k0 k1 : Blk} {R : List Blk} {T ty : TypeId} {x y : Operand} {pos : String} {af : Array Edge} {g : Option (Nat × Bool)} {b o : Nat} {cs cs' : List Value} {T0 : TypeId} {v : Value} {vs : List Value} (hx : opv l x = some (.pointer (some ⟨b, o, none⟩))) (hy : opv l y = some v) (hv : v.cells.toList = vs) (hS : Sz P T vs.length) (hl : Nat.ble (o + vs.length) cs.length = true) (h1 : vs.all (·.oneCell') = true) (hc : splice cs o vs = cs') :
    Stp P Q n M w0 l (k0 :: k1 :: ⟨b, cs, T0, true⟩ :: R) ⟨none, .store T x y, ty, pos, af, g⟩ (σ := Unit) (fun _ => True) (fun _ => l) (fun _ => k0 :: k1 :: ⟨b, cs', T0, true⟩ :: R) :=
  Stp.storeL (i := 2) hx hy hv hS rfl hl h1 (by rw [hc]; rfl)
theorem Stp.st3 {k0 k1 k2 : Blk} {R : List Blk} {T ty : TypeId} {x y : Operand} {pos : String} {af : Array Edge} {g : Option (Nat × Bool)} {b o : Nat} {cs cs' : List Value} {T0 : TypeId} {v : Value} {vs : List Value} (hx : opv l x = some (.pointer (some ⟨b, o, none⟩))) (hy : opv l y = some v) (hv : v.cells.toList = vs) (hS : Sz P T vs.length) (hl : Nat.ble (o + vs.length) cs.length = true) (h1 : vs.all (·.oneCell') = true) (hc : splice cs o vs = cs') :
    Stp P Q n M w0 l (k0 :: k1 :: k2 :: ⟨b, cs, T0, true⟩ :: R) ⟨none, .store T x y, ty, pos, af, g⟩ (σ := Unit) (fun _ => True) (fun _ => l) (fun _ => k0 :: k1 :: k2 :: ⟨b, cs', T0, true⟩ :: R) :=
  Stp.storeL (i := 3) hx hy hv hS rfl hl h1 (by rw [hc]; rfl)
theorem Stp.st4 {k0 k1 k2 k3 : Blk} {R : List Blk} {T ty : TypeId} {x y : Operand} {pos : String} {af : Array Edge} {g : Option (Nat × Bool)} {b o : Nat} {cs cs' : List Value} {T0 : TypeId} {v : Value} {vs : List Value} (hx : opv l x = some (.pointer (some ⟨b, o, none⟩))) (hy : opv l y = some v) (hv : v.cells.toList = vs) (hS : Sz P T vs.length) (hl : Nat.ble (o + vs.length) cs.length = true) (h1 : vs.all (·.oneCell') = true) (hc : splice cs o vs = cs') :
    Stp P Q n M w0 l (k0 :: k1 :: k2 :: k3 :: ⟨b, cs, T0, true⟩ :: R) ⟨none, .store T x y, ty, pos, af, g⟩ (σ := Unit) (fun _ => True) (fun _ => l) (fun _ => k0 :: k1 :: k2 :: k3 :: ⟨b, cs', T0, true⟩ :: R) :=
  Stp.storeL (i := 4) hx hy hv hS rfl hl h1 (by rw [hc]; rfl)
theorem Stp.st5 {k0 k1 k2 k3 k4 : Blk} {R : List Blk} {T ty : TypeId} {x y : Operand} {pos : String} {af : Array Edge} {g : Option (Nat × Bool)} {b o : Nat} {cs cs' : List Value} {T0 : TypeId} {v : Value} {vs : List Value} (hx : opv l x = some (.pointer (some ⟨b, o, none⟩))) (hy : opv l y = some v) (hv : v.cells.toList = vs) (hS : Sz P T vs.length) (hl : Nat.ble (o + vs.length) cs.length = true) (h1 : vs.all (·.oneCell') = true) (hc : splice cs o vs = cs') :
    Stp P Q n M w0 l (k0 :: k1 :: k2 :: k3 :: k4 :: ⟨b, cs, T0, true⟩ :: R) ⟨none, .store T x y, ty, pos, af, g⟩ (σ := Unit) (fun _ => True) (fun _ => l) (fun _ => k0 :: k1 :: k2 :: k3 :: k4 :: ⟨b, cs', T0, true⟩ :: R) :=
  Stp.storeL (i := 5) hx hy hv hS rfl hl h1 (by rw [hc]; rfl)
theorem Stp.st6 {k0 k1 k2 k3 k4 k5 : Blk} {R : List Blk} {T ty : TypeId} {x y : Operand} {pos : String} {af : Array Edge} {g : Option (Nat × Bool)} {b o : Nat} {cs cs' : List Value} {T0 : TypeId} {v : Value} {vs : List Value} (hx : opv l x = some (.pointer (some ⟨b, o, none⟩))) (hy : opv l y = some v) (hv : v.cells.toList = vs) (hS : Sz P T vs.length) (hl : Nat.ble (o + vs.length) cs.length = true) (h1 : vs.all (·.oneCell') = true) (hc : splice cs o vs = cs') :
    Stp P Q n M w0 l (k0 :: k1 :: k2 :: k3 :: k4 :: k5 :: ⟨b, cs, T0, true⟩ :: R) ⟨none, .store T x y, ty, pos, af, g⟩ (σ := Unit) (fun _ => True) (fun _ => l) (fun _ => k0 :: k1 :: k2 :: k3 :: k4 :: k5 :: ⟨b, cs', T0, true⟩ :: R) :=
  Stp.storeL (i := 6) hx hy hv hS rfl hl h1 (by rw [hc]; rfl)
theorem Stp.st7 {k0 k1 k2 k3 k4 k5 k6 : Blk} {R : List Blk} {T ty : TypeId} {x y : Operand} {pos : String} {af : Array Edge} {g : Option (Nat × Bool)} {b o : Nat} {cs cs' : List Value} {T0 : TypeId} {v : Value} {vs : List Value} (hx : opv l x = some (.pointer (some ⟨b, o, none⟩))) (hy : opv l y = some v) (hv : v.cells.toList = vs) (hS : Sz P T vs.length) (hl : Nat.ble (o + vs.length) cs.length = true) (h1 : vs.all (·.oneCell') = true) (hc : splice cs o vs = cs') :
    Stp P Q n M w0 l (k0 :: k1 :: k2 :: k3 :: k4 :: k5 :: k6 :: ⟨b, cs, T0, true⟩ :: R) ⟨none, .store T x y, ty, pos, af, g⟩ (σ := Unit) (fun _ => True) (fun _ => l) (fun _ => k0 :: k1 :: k2 :: k3 :: k4 :: k5 :: k6 :: ⟨b, cs', T0, true⟩ :: R) :=
  Stp.storeL (i := 7) hx hy hv hS rfl hl h1 (by rw [hc]; rfl)
theorem Stp.st8 {k0 k1 k2 k3 k4 k5 k6 k7 : Blk} {R : List Blk} {T ty : TypeId} {x y : Operand} {pos : String} {af : Array Edge} {g : Option (Nat × Bool)} {b o : Nat} {cs cs' : List Value} {T0 : TypeId} {v : Value} {vs : List Value} (hx : opv l x = some (.pointer (some ⟨b, o, none⟩))) (hy : opv l y = some v) (hv : v.cells.toList = vs) (hS : Sz P T vs.length) (hl : Nat.ble (o + vs.length) cs.length = true) (h1 : vs.all (·.oneCell') = true) (hc : splice cs o vs = cs') :
    Stp P Q n M w0 l (k0 :: k1 :: k2 :: k3 :: k4 :: k5 :: k6 :: k7 :: ⟨b, cs, T0, true⟩ :: R) ⟨none, .store T x y, ty, pos, af, g⟩ (σ := Unit) (fun _ => True) (fun _ => l) (fun _ => k0 :: k1 :: k2 :: k3 :: k4 :: k5 :: k6 :: k7 :: ⟨b, cs', T0, true⟩ :: R) :=
  Stp.storeL (i := 8) hx hy hv hS rfl hl h1 (by rw [hc]; rfl)
theorem Stp.st9 {k0 k1 k2 k3 k4 k5 k6 k7 k8 : Blk} {R : List Blk} {T ty : TypeId} {x y : Operand} {pos : String} {af : Array Edge} {g : Option (Nat × Bool)} {b o : Nat} {cs cs' : List Value} {T0 : TypeId} {v : Value} {vs : List Value} (hx : opv l x = some (.pointer (some ⟨b, o, none⟩))) (hy : opv l y = some v) (hv : v.cells.toList = vs) (hS : Sz P T vs.length) (hl : Nat.ble (o + vs.length) cs.length = true) (h1 : vs.all (·.oneCell') = true) (hc : splice cs o vs = cs') :
    Stp P Q n M w0 l (k0 :: k1 :: k2 :: k3 :: k4 :: k5 :: k6 :: k7 :: k8 :: ⟨b, cs, T0, true⟩ :: R) ⟨none, .store T x y, ty, pos, af, g⟩ (σ := Unit) (fun _ => True) (fun _ => l) (fun _ => k0 :: k1 :: k2 :: k3 :: k4 :: k5 :: k6 :: k7 :: k8 :: ⟨b, cs', T0, true⟩ :: R) :=
  Stp.storeL (i := 9) hx hy hv hS rfl hl h1 (by rw [hc]; rfl)
theorem Stp.st10 {k0 k1 k2 k3 k4 k5 k6 k7 k8 k9 : Blk} {R : List Blk} {T ty : TypeId} {x y : Operand} {pos : String} {af : Array Edge} {g : Option (Nat × Bool)} {b o : Nat} {cs cs' : List Value} {T0 : TypeId} {v : Value} {vs : List Value} (hx : opv l x = some (.pointer (some ⟨b, o, none⟩))) (hy : opv l y = some v) (hv : v.cells.toList = vs) (hS : Sz P T vs.length) (hl : Nat.ble (o + vs.length) cs.length = true) (h1 : vs.all (·.oneCell') = true) (hc : splice cs o vs = cs') :
    Stp P Q n M w0 l (k0 :: k1 :: k2 :: k3 :: k4 :: k5 :: k6 :: k7 :: k8 :: k9 :: ⟨b, cs, T0, true⟩ :: R) ⟨none, .store T x y, ty, pos, af, g⟩ (σ := Unit) (fun _ => True) (fun _ => l) (fun _ => k0 :: k1 :: k2 :: k3 :: k4 :: k5 :: k6 :: k7 :: k8 :: k9 :: ⟨b, cs', T0, true⟩ :: R) :=
  Stp.storeL (i := 10) hx hy hv hS rfl hl h1 (by rw [hc]; rfl)
theorem Stp.st11 {k0 k1 k2 k3 k4 k5 k6 k7 k8 k9 k10 : Blk} {R : List Blk} {T ty : TypeId} {x y : Operand} {pos : String} {af : Array Edge} {g : Option (Nat × Bool)} {b o : Nat} {cs cs' : List Value} {T0 : TypeId} {v : Value} {vs : List Value} (hx : opv l x = some (.pointer (some ⟨b, o, none⟩))) (hy : opv l y = some v) (hv : v.cells.toList = vs) (hS : Sz P T vs.length) (hl : Nat.ble (o + vs.length) cs.length = true) (h1 : vs.all (·.oneCell') = true) (hc : splice cs o vs = cs') :
    Stp P Q n M w0 l (k0 :: k1 :: k2 :: k3 :: k4 :: k5 :: k6 :: k7 :: k8 :: k9 :: k10 :: ⟨b, cs, T0, true⟩ :: R) ⟨none, .store T x y, ty, pos, af, g⟩ (σ := Unit) (fun _ => True) (fun _ => l) (fun _ => k0 :: k1 :: k2 :: k3 :: k4 :: k5 :: k6 :: k7 :: k8 :: k9 :: k10 :: ⟨b, cs', T0, true⟩ :: R) :=
  Stp.storeL (i := 11) hx hy hv hS rfl hl h1 (by rw [hc]; rfl)
theorem Stp.st12 {k0 k1 k2 k3 k4 k5 k6 k7 k8 k9 k10 k11 : Blk} {R : List Blk} {T ty : TypeId} {x y : Operand} {pos : String} {af : Array Edge} {g : Option (Nat × Bool)} {b o : Nat} {cs cs' : List Value} {T0 : TypeId} {v : Value} {vs : List Value} (hx : opv l x = some (.pointer (some ⟨b, o, none⟩))) (hy : opv l y = some v) (hv : v.cells.toList = vs) (hS : Sz P T vs.length) (hl : Nat.ble (o + vs.length) cs.length = true) (h1 : vs.all (·.oneCell') = true) (hc : splice cs o vs = cs') :
    Stp P Q n M w0 l (k0 :: k1 :: k2 :: k3 :: k4 :: k5 :: k6 :: k7 :: k8 :: k9 :: k10 :: k11 :: ⟨b, cs, T0, true⟩ :: R) ⟨none, .store T x y, ty, pos, af, g⟩ (σ := Unit) (fun _ => True) (fun _ => l) (fun _ => k0 :: k1 :: k2 :: k3 :: k4 :: k5 :: k6 :: k7 :: k8 :: k9 :: k10 :: k11 :: ⟨b, cs', T0, true⟩ :: R) :=
  Stp.storeL (i := 12) hx hy hv hS rfl hl h1 (by rw [hc]; rfl)
theorem Stp.st13 {k0 k1 k2 k3 k4 k5 k6 k7 k8 k9 k10 k11 k12 : Blk} {R : List Blk} {T ty : TypeId} {x y : Operand} {pos : String} {af : Array Edge} {g : Option (Nat × Bool)} {b o : Nat} {cs cs' : List Value} {T0 : TypeId} {v : Value} {vs : List Value} (hx : opv l x = some (.pointer (some ⟨b, o, none⟩))) (hy : opv l y = some v) (hv : v.cells.toList = vs) (hS : Sz P T vs.length) (hl : Nat.ble (o + vs.length) cs.length = true) (h1 : vs.all (·.oneCell') = true) (hc : splice cs o vs = cs') :
    Stp P Q n M w0 l (k0 :: k1 :: k2 :: k3 :: k4 :: k5 :: k6 :: k7 :: k8 :: k9 :: k10 :: k11 :: k12 :: ⟨b, cs, T0, true⟩ :: R) ⟨none, .store T x y, ty, pos, af, g⟩ (σ := Unit) (fun _ => True) (fun _ => l) (fun _ => k0 :: k1 :: k2 :: k3 :: k4 :: k5 :: k6 :: k7 :: k8 :: k9 :: k10 :: k11 :: k12 :: ⟨b, cs', T0, true⟩ :: R) :=
  Stp.storeL (i := 13) hx hy hv hS rfl hl h1 (by rw [hc]; rfl)
theorem Stp.st14 {k0 k1 k2 k3 k4 k5 k6 k7 k8 k9 k10 k11 k12 k13 : Blk} {R : List Blk} {T ty : TypeId} {x y : Operand} {pos : String} {af : Array Edge} {g : Option (Nat × Bool)} {b o : Nat} {cs cs' : List Value} {T0 : TypeId} {v : Value} {vs : List Value} (hx : opv l x = some (.pointer (some ⟨b, o, none⟩))) (hy : opv l y = some v) (hv : v.cells.toList = vs) (hS : Sz P T vs.length) (hl : Nat.ble (o + vs.length) cs.length = true) (h1 : vs.all (·.oneCell') = true) (hc : splice cs o vs = cs') :
    Stp P Q n M w0 l (k0 :: k1 :: k2 :: k3 :: k4 :: k5 :: k6 :: k7 :: k8 :: k9 :: k10 :: k11 :: k12 :: k13 :: ⟨b, cs, T0, true⟩ :: R) ⟨none, .store T x y, ty, pos, af, g⟩ (σ := Unit) (fun _ => True) (fun _ => l) (fun _ => k0 :: k1 :: k2 :: k3 :: k4 :: k5 :: k6 :: k7 :: k8 :: k9 :: k10 :: k11 :: k12 :: k13 :: ⟨b, cs', T0, true⟩ :: R) :=
  Stp.storeL (i := 14) hx hy hv hS rfl hl h1 (by rw [hc]; rfl)
theorem Stp.st15 {k0 k1 k2 k3 k4 k5 k6 k7 k8 k9 k10 k11 k12 k13 k14 : Blk} {R : List Blk} {T ty : TypeId} {x y : Operand} {pos : String} {af : Array Edge} {g : Option (Nat × Bool)} {b o : Nat} {cs cs' : List Value} {T0 : TypeId} {v : Value} {vs : List Value} (hx : opv l x = some (.pointer (some ⟨b, o, none⟩))) (hy : opv l y = some v) (hv : v.cells.toList = vs) (hS : Sz P T vs.length) (hl : Nat.ble (o + vs.length) cs.length = true) (h1 : vs.all (·.oneCell') = true) (hc : splice cs o vs = cs') :
    Stp P Q n M w0 l (k0 :: k1 :: k2 :: k3 :: k4 :: k5 :: k6 :: k7 :: k8 :: k9 :: k10 :: k11 :: k12 :: k13 :: k14 :: ⟨b, cs, T0, true⟩ :: R) ⟨none, .store T x y, ty, pos, af, g⟩ (σ := Unit) (fun _ => True) (fun _ => l) (fun _ => k0 :: k1 :: k2 :: k3 :: k4 :: k5 :: k6 :: k7 :: k8 :: k9 :: k10 :: k11 :: k12 :: k13 :: k14 :: ⟨b, cs', T0, true⟩ :: R) :=
  Stp.storeL (i := 15) hx hy hv hS rfl hl h1 (by rw [hc]; rfl)
end

/-- The two parts of a piece of code. -/
def seqF : Code → Code
  | .seq a _ => a
  | c => c
def seqS : Code → Code
  | .seq _ b => b
  | c => c

end Sx
