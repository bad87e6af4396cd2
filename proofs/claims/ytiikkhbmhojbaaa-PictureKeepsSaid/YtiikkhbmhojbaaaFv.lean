/- Floats whose NaNs are drawn: what is known of a float's bits (Is), the operations on what is known, and their steps. No program is named here. -/
import Derived.Test.YtiikkhbmhojbaaaSx
import Derived.Test.YtiikkhbmhojbaaaFp
import Derived.Laws.FloatArith
namespace Fv
open Go Ieee
set_option linter.unusedVariables false
def nanB (k : FloatKind) (b : Nat) : Bool := (k.decode b).isNaN
/-- What a float's bits are known to be: those bits, no NaN; or some NaN's. -/
def Is (k : FloatKind) (X : Nat) : Option Nat → Prop
  | none => nanB k X = true
  | some b => X = b ∧ nanB k b = false
def op (o : BinOp) (k : FloatKind) (x y : Option Nat) : Option Nat := x.bind fun a => y.bind fun b => floatBits o k a b
def cv (s k : FloatKind) (x : Option Nat) : Option Nat := x.bind fun a => floatToFloatBits s a k
def ord (k : FloatKind) (x y : Option Nat) : Option Ordering := x.bind fun a => y.bind fun b => k.format.order a b
/-- A word read as a float. -/
def rd (k : FloatKind) (b : Nat) : Option Nat := if nanB k b then none else some b
theorem Is.rd (k : FloatKind) (b : Nat) : Is k b (rd k b) := by
  unfold Fv.rd; by_cases h : nanB k b = true
  · rw [if_pos h]; exact h
  · rw [if_neg h]; exact ⟨rfl, by simpa using h⟩
theorem read_word_ne {f : Format} (hs : f.infRung < f.signWeight) (hB : f.binade ≤ f.infRung) (s : Bool) {r : Nat} (h : r ≤ f.infRung) : (f.read (f.word s r)).isNaN = false := by
  have e : f.word s r % f.signWeight = r := by
    unfold Format.word; cases s
    · show r % f.signWeight = r
      exact Nat.mod_eq_of_lt (by omega)
    · show (f.signWeight + r) % f.signWeight = r
      rw [Nat.add_mod_left]; exact Nat.mod_eq_of_lt (by omega)
  unfold Format.read
  simp only [e]
  split
  · rfl
  · split
    · rfl
    · rw [if_pos (by omega)]; rfl
theorem fit (k : FloatKind) : k.format.infRung < k.format.signWeight ∧ k.format.binade ≤ k.format.infRung := by
  cases k <;> decide +kernel
theorem write_ne (k : FloatKind) {d : Datum} (h : d.isNaN = false) : nanB k (k.format.write d) = false := by
  obtain ⟨h1, h2⟩ := fit k
  unfold nanB FloatKind.decode
  cases d with
  | number s m e =>
    show (k.format.read (k.format.nearest s m e)).isNaN = false
    unfold Format.nearest
    split
    · exact read_word_ne h1 h2 s (Nat.zero_le _)
    · exact read_word_ne h1 h2 s (Nat.min_le_right _ _)
  | infinity s => exact read_word_ne h1 h2 s (Nat.le_refl _)
  | nan s f => exact absurd h (by simp [Datum.isNaN])
theorem sum_ne {d e r : Datum} (h : d.sum e = some r) : r.isNaN = false := by
  cases d <;> cases e <;> simp [Datum.sum] at h <;> (first | (obtain ⟨_, h⟩ := h; subst h; rfl) | (subst h; rfl) | (split at h <;> first | (cases h; rfl) | cases h))
theorem product_ne {d e r : Datum} (h : d.product e = some r) : r.isNaN = false := by
  cases d <;> cases e <;> simp [Datum.product] at h <;> (first | (obtain ⟨_, h⟩ := h; subst h; rfl) | (subst h; rfl) | (split at h <;> first | (cases h; rfl) | cases h))
theorem quotient_ne {n : Nat} {d e r : Datum} (h : d.quotient n e = some r) : r.isNaN = false := by
  cases d <;> cases e <;> simp [Datum.quotient] at h
  all_goals first
    | (subst h; rfl)
    | (repeat' split at h) <;> first | (cases h; done) | (cases h; rfl)
theorem op_ne {o : BinOp} {k : FloatKind} {X Y r : Nat} (h : floatBits o k X Y = some r) : nanB k r = false := by
  unfold floatBits at h
  split at h
  · unfold Format.add at h; rw [Option.map_eq_some_iff] at h; obtain ⟨d, e, rfl⟩ := h; exact write_ne k (sum_ne e)
  · unfold Format.sub at h; rw [Option.map_eq_some_iff] at h; obtain ⟨d, e, rfl⟩ := h; exact write_ne k (sum_ne e)
  · unfold Format.mul at h; rw [Option.map_eq_some_iff] at h; obtain ⟨d, e, rfl⟩ := h; exact write_ne k (product_ne e)
  · unfold Format.div at h; rw [Option.map_eq_some_iff] at h; obtain ⟨d, e, rfl⟩ := h; exact write_ne k (quotient_ne e)
  · cases h
theorem nan_of {d : Datum} (h : d.isNaN = true) : ∃ s f, d = .nan s f := by cases d <;> simp [Datum.isNaN] at h; exact ⟨_, _, rfl⟩
theorem op_nan1 {o : BinOp} {k : FloatKind} {X : Nat} (h : nanB k X = true) (Y : Nat) : floatBits o k X Y = none := by
  obtain ⟨s, f, e⟩ := nan_of h
  have e' : k.format.read X = .nan s f := e
  unfold floatBits
  split <;> first | rfl | simp [Format.add, Format.sub, Format.mul, Format.div, e', Datum.sum, Datum.product, Datum.quotient]
theorem op_nan2 {o : BinOp} {k : FloatKind} {Y : Nat} (h : nanB k Y = true) (X : Nat) : floatBits o k X Y = none := by
  obtain ⟨s, f, e⟩ := nan_of h
  have e' : k.format.read Y = .nan s f := e
  unfold floatBits
  split <;> first | rfl | (simp only [Format.add, Format.sub, Format.mul, Format.div, e', Datum.opposite]; cases k.format.read X <;> simp [Datum.sum, Datum.product, Datum.quotient])
theorem ord_nan1 {k : FloatKind} {X : Nat} (h : nanB k X = true) (Y : Nat) : k.format.order X Y = none := by
  obtain ⟨s, f, e⟩ := nan_of h
  have e' : k.format.read X = .nan s f := e
  simp [Format.order, e', Datum.order]
theorem ord_nan2 {k : FloatKind} {Y : Nat} (h : nanB k Y = true) (X : Nat) : k.format.order X Y = none := by
  obtain ⟨s, f, e⟩ := nan_of h
  have e' : k.format.read Y = .nan s f := e
  simp only [Format.order, e']; cases k.format.read X <;> simp [Datum.order]
theorem op_eq {o : BinOp} {k : FloatKind} {X Y : Nat} {x y : Option Nat} (hX : Is k X x) (hY : Is k Y y) : floatBits o k X Y = op o k x y := by
  cases x with
  | none => exact op_nan1 hX Y
  | some a =>
    obtain ⟨rfl, _⟩ := hX
    cases y with
    | none => exact op_nan2 hY X
    | some b => obtain ⟨rfl, _⟩ := hY; rfl
theorem ord_eq {k : FloatKind} {X Y : Nat} {x y : Option Nat} (hX : Is k X x) (hY : Is k Y y) : k.format.order X Y = ord k x y := by
  cases x with
  | none => exact ord_nan1 hX Y
  | some a =>
    obtain ⟨rfl, _⟩ := hX
    cases y with
    | none => exact ord_nan2 hY X
    | some b => obtain ⟨rfl, _⟩ := hY; rfl
theorem drawn_nan (k : FloatKind) (q : Question) (t : Nat) (hq : (∃ a b, q = .nanBits k a b) ∨ ∃ b, q = .nanConv k b) : nanB k (q.cut t) = true := by
  have key : ∀ z : Nat, (∃ s f, z = s * k.format.signWeight + k.format.infRung + 1 + f ∧ s < 2 ∧ f < k.format.signWeight - k.format.infRung - 1) → nanB k z = true := by
    rintro z ⟨s, f, rfl, hs, hf⟩
    obtain ⟨h1, h2⟩ := fit k
    unfold nanB FloatKind.decode Format.read
    have e : (s * k.format.signWeight + k.format.infRung + 1 + f) % k.format.signWeight = k.format.infRung + 1 + f := by
      rw [show s * k.format.signWeight + k.format.infRung + 1 + f = k.format.infRung + 1 + f + s * k.format.signWeight by omega, Nat.add_mul_mod_self_right]
      exact Nat.mod_eq_of_lt (by omega)
    simp only [e]
    rw [if_neg (by omega), if_neg (by omega), if_neg (by omega)]; rfl
  apply key
  cases k
  · have a1 : FloatKind.f32.format.signWeight = 2147483648 := by decide +kernel
    have a2 : FloatKind.f32.format.infRung = 2139095040 := by decide +kernel
    rcases hq with ⟨a, b, rfl⟩ | ⟨b, rfl⟩ <;> refine ⟨t % 2, (t / 2) % (2 ^ 23 - 1), ?_, by omega, ?_⟩ <;> simp only [Question.cut, a1, a2] <;> omega
  · have a1 : FloatKind.f64.format.signWeight = 9223372036854775808 := by decide +kernel
    have a2 : FloatKind.f64.format.infRung = 9218868437227405312 := by decide +kernel
    rcases hq with ⟨a, b, rfl⟩ | ⟨b, rfl⟩ <;> refine ⟨t % 2, (t / 2) % (2 ^ 52 - 1), ?_, by omega, ?_⟩ <;> simp only [Question.cut, a1, a2] <;> omega
theorem cv_ne {s k : FloatKind} (hsk : s ≠ k) {X r : Nat} (h : floatToFloatBits s X k = some r) : nanB k r = false := by
  unfold floatToFloatBits at h
  rw [if_neg hsk] at h
  split at h
  · cases h
  · cases h; exact write_ne k rfl
  · split at h
    · cases h
    · cases h; exact write_ne k rfl
theorem cv_nan {s k : FloatKind} (hsk : s ≠ k) {X : Nat} (h : nanB s X = true) : floatToFloatBits s X k = none := by
  obtain ⟨g, f, e⟩ := nan_of h
  have e' : s.decode X = .nan g f := e
  unfold floatToFloatBits
  rw [if_neg hsk, e']
/-- a conversion that does not overflow -/
def IsB (k : FloatKind) (X : Nat) (x : Option Nat) : Prop := Is k X x ∧ X < 2 * k.format.signWeight
theorem drawn_lt (k : FloatKind) (q : Question) (t : Nat) (hq : (∃ a b, q = .nanBits k a b) ∨ ∃ b, q = .nanConv k b) : q.cut t < 2 * k.format.signWeight := by
  cases k
  · have a1 : FloatKind.f32.format.signWeight = 2147483648 := by decide +kernel
    rcases hq with ⟨a, b, rfl⟩ | ⟨b, rfl⟩ <;> simp only [Question.cut, a1] <;> omega
  · have a1 : FloatKind.f64.format.signWeight = 9223372036854775808 := by decide +kernel
    rcases hq with ⟨a, b, rfl⟩ | ⟨b, rfl⟩ <;> simp only [Question.cut, a1] <;> omega
theorem cv_lt {s k : FloatKind} (hsk : s ≠ k) {X r : Nat} (h : floatToFloatBits s X k = some r) : r < 2 * k.format.signWeight := by
  have hw : 2 ^ k.format.width = 2 * k.format.signWeight := by cases k <;> decide +kernel
  rw [← hw]
  unfold floatToFloatBits at h
  rw [if_neg hsk] at h
  split at h
  · cases h
  · cases h; exact k.format.write_lt _
  · split at h
    · cases h
    · cases h; exact k.format.write_lt _
def Holds (s k : FloatKind) (x : Option Nat) : Prop := ∀ b, x = some b → (floatToFloatBits s b k).isSome = true
theorem ofInt_ne (k : FloatKind) (m : Int) : nanB k (floatOfInt k m) = false := write_ne k (d := .number (m < 0) m.natAbs 0) rfl
/-! ### A sample's rank -/
/-- Of the word of a number or of an infinity: how many steps above 0. -/
def rk (s : Int) : Int := if s < 2147483648 then s else 2147483648 - s
theorem num_rk {s : Int} (h : 0 ≤ s ∧ s < 4294967296) : Fp.Num single s.toNat (rk s) := by
  have e : single.signWeight = 2147483648 := by decide +kernel
  unfold rk
  by_cases h1 : s < 2147483648
  · refine ⟨false, ?_, by rw [if_pos h1]; omega, fun _ => rfl⟩
    rw [if_pos h1]
    show s.toNat = s.natAbs
    omega
  · refine ⟨true, ?_, fun _ => rfl, by rw [if_neg h1]; omega⟩
    rw [if_neg h1]
    show s.toNat = single.signWeight + (2147483648 - s).natAbs
    rw [e]; omega
theorem rd_fin {s : Int} (h : 0 ≤ s ∧ s < 4294967296) (hr : (rk s).natAbs < Fp.S.inf) : rd .f32 s.toNat = some s.toNat := by
  obtain ⟨g, m, p, e, _⟩ := (num_rk h).read Fp.fits_S hr
  unfold rd nanB
  have e' : FloatKind.f32.decode s.toNat = .number g m p := e
  rw [e']; rfl
theorem rd_inf {s : Int} (h : 0 ≤ s ∧ s < 4294967296) (hr : (rk s).natAbs = Fp.S.inf) : ∃ g, FloatKind.f32.decode s.toNat = .infinity g ∧ g = decide (rk s < 0) := by
  obtain ⟨g, e, h1, h2⟩ := num_rk h
  rw [hr] at e
  refine ⟨g, by show single.read s.toNat = _; rw [e]; exact Fp.read_inf Fp.fits_S g, ?_⟩
  have h0 : rk s ≠ 0 := fun q => by rw [q] at hr; exact absurd hr (by decide)
  rcases Int.lt_or_gt_of_ne h0 with q | q
  · rw [h1 q]; simp [q]
  · rw [h2 q]; simp; omega
theorem rd_nan {s : Int} (h : 0 ≤ s ∧ s < 4294967296) (hr : Fp.S.inf < (rk s).natAbs) : rd .f32 s.toNat = none := by
  have e : single.signWeight = 2147483648 := by decide +kernel
  have e2 : single.infRung = 2139095040 := by decide +kernel
  have e3 : single.binade = 8388608 := by decide +kernel
  have e4 : Fp.S.inf = 2139095040 := rfl
  have hm : s.toNat % 2147483648 = (rk s).natAbs := by unfold rk; split <;> omega
  unfold rd nanB
  have : (FloatKind.f32.decode s.toNat).isNaN = true := by
    show (single.read s.toNat).isNaN = true
    unfold Format.read
    simp only [e, e2, e3, hm]
    rw [if_neg (by omega), if_neg (by omega), if_neg (by omega)]; rfl
  rw [if_pos this]
theorem holds_up {b : Nat} : Holds .f32 .f64 (rd .f32 b) := by
  intro c hc
  unfold rd at hc
  by_cases hn : nanB .f32 b = true
  · rw [if_pos hn] at hc; cases hc
  · rw [if_neg hn] at hc; cases hc
    have hl : b % 2147483648 < 2147483648 := Nat.mod_lt _ (by decide)
    have key : ∀ s m p, FloatKind.f32.decode b = .number s m p → (floatToFloatBits .f32 b .f64).isSome = true := by
      intro s m p e
      have e0 : single.read b = .number s m p := e
      have e1 : single.signWeight = 2147483648 := by decide +kernel
      have e2 : single.infRung = 2139095040 := by decide +kernel
      have e3 : single.binade = 8388608 := by decide +kernel
      have hr : b % 2147483648 < 2139095040 := by
        unfold Format.read at e0
        simp only [e1, e2, e3] at e0
        split at e0
        · omega
        · split at e0
          · assumption
          · split at e0 <;> cases e0
      have hw : b = b / 2147483648 * 2147483648 + b % 2147483648 := by omega
      have hrd : single.read b = single.read (single.word (b / 2147483648 % 2 == 1) (b % 2147483648)) := by
        have hp := Fp.word_parts (f := single) (s := (b / 2147483648 % 2 == 1)) (r := b % 2147483648) (by rw [e1]; omega)
        unfold Format.read
        simp only [hp.1, hp.2]
        simp only [e1]
      have hN : Fp.Num single (single.word (b / 2147483648 % 2 == 1) (b % 2147483648)) (if (b / 2147483648 % 2 == 1) then -((b % 2147483648 : Nat) : Int) else ((b % 2147483648 : Nat) : Int)) := by
        generalize (b / 2147483648 % 2 == 1) = g
        generalize b % 2147483648 = r
        cases g
        · exact ⟨false, by simp, by simp, by simp⟩
        · exact ⟨true, by simp, by simp, by simp⟩
      obtain ⟨w, hw, _⟩ := Fp.widen hN (by split <;> (show _ < 2139095040; omega))
      have : floatToFloatBits .f32 b .f64 = floatToFloatBits .f32 (single.word (b / 2147483648 % 2 == 1) (b % 2147483648)) .f64 := by
        unfold floatToFloatBits
        rw [show FloatKind.f32.decode b = FloatKind.f32.decode (single.word (b / 2147483648 % 2 == 1) (b % 2147483648)) from hrd]
        simp
      rw [this, hw]; rfl
    cases hd : FloatKind.f32.decode b with
    | number s m p => exact key s m p hd
    | infinity s => unfold floatToFloatBits; rw [if_neg (by decide), hd]; rfl
    | nan s f => exact absurd (show nanB .f32 b = true by unfold nanB; rw [hd]; rfl) hn
theorem ord_self (k : FloatKind) {b : Nat} (h : nanB k b = false) : k.format.order b b = some .eq := by
  unfold nanB FloatKind.decode at h
  unfold Format.order
  cases hd : k.format.read b with
  | nan s f => rw [hd] at h; cases h
  | infinity s => simp [Datum.order]
  | number s m e => simp [Datum.order]
/-- A sample's value; a number told as a sample. -/
def V (s : Int) : Option Nat := cv .f32 .f64 (rd .f32 s.toNat)
def T32 (x : Option Nat) : Int := match x with | some b => (b : Int) | none => 2143289344
def T (x : Option Nat) : Int := T32 (cv .f64 .f32 x)
theorem T32_none {x : Option Nat} (h : x.isNone = true) : T32 x = 2143289344 := by cases x <;> first | rfl | cases h
theorem T32_some {k : FloatKind} {X : Nat} {x : Option Nat} (hX : Is k X x) (h : x.isNone = false) : T32 x = (X : Int) := by
  cases x with
  | none => cases h
  | some b => obtain ⟨rfl, _⟩ := hX; rfl
theorem neq_self {k : FloatKind} {X : Nat} {x : Option Nat} (h : Is k X x) : (ord k x x != some .eq) = x.isNone := by
  cases x with
  | none => rfl
  | some b => obtain ⟨_, h⟩ := h; simp [ord, ord_self k h]
end Fv
namespace Sx
open Go Fv
set_option linter.unusedVariables false
section
variable {P : Program} {Q : Exit → Act → World → Prop} {n : Nat} {M : Nat → Prop} {w0 : World} {l : List (Nat × Value)} {L : List Blk}
theorem Stp.fop {d : Nat} {o : BinOp} {T T' ty : TypeId} {x y : Operand} {pos : String} {af : Array Edge} {g : Option (Nat × Bool)} {k : FloatKind} {X Y : Nat} {fx fy : Option Nat} (ho : (o == .add || o == .sub || o == .mul || o == .quo) = true) (hx : opv l x = some (.float k X)) (hy : opv l y = some (.float k Y)) (hX : Is k X fx) (hY : Is k Y fy) (hd : d < n) :
    Stp P Q n M w0 l L ⟨some d, .binOp o T x y T', ty, pos, af, g⟩ (σ := Nat) (fun z => Is k z (Fv.op o k fx fy)) (fun z => (d, .float k z) :: l) (fun _ => L) :=
  Stp.mk fun a w hF hH => by
    have he := op_eq (o := o) hX hY
    rw [← he]
    cases hr : floatBits o k X Y with
    | some r => exact ⟨r, .float k r, w, Ex.farith hx hy hr _ _ _ _ _ a w hF hH, ⟨rfl, op_ne hr⟩, hF.put hd _, hH⟩
    | none =>
      refine ⟨(Question.nanBits k X Y).cut (w.tape w.drawn (.nanBits k X Y)), .float k _, { w with drawn := w.drawn + 1 }, ?_, drawn_nan k _ _ (.inl ⟨_, _, rfl⟩), hF.put hd _, hH.drew⟩
      show (do pure (Next.value (← (do eqGuard o T x y (a.eval x) (a.eval y); binOp o T (a.eval x) (a.eval y)))) : Sem Next).run P w = _
      refine run_v' ?_
      rw [hF.eval hx, hF.eval hy, Sem.run_bind, bin_guard (by simp) (by simp)]
      show (binOp o T (.float k X) (.float k Y)).run P w = _
      unfold floatBits at hr
      cases o <;> simp at ho <;> simp only at hr <;> simp [binOp, Op.floatArith, hr, Question.forced]
theorem Stp.fcv {d : Nat} {S T ty : TypeId} {x : Operand} {pos : String} {af : Array Edge} {g : Option (Nat × Bool)} {s k : FloatKind} {X : Nat} {fx : Option Nat} {dS : TypeDesc} (hsk : s ≠ k) (hx : opv l x = some (.float s X)) (hS : P.underlying S = some dS) (hT : P.underlying T = some (.float k)) (hX : Is s X fx) (hn : Holds s k fx) (hd : d < n) :
    Stp P Q n M w0 l L ⟨some d, .convert S T x, ty, pos, af, g⟩ (σ := Nat) (fun z => IsB k z (Fv.cv s k fx)) (fun z => (d, .float k z) :: l) (fun _ => L) :=
  Stp.mk fun a w hF hH => by
    cases fx with
    | some b =>
      obtain ⟨rfl, _⟩ := hX
      obtain ⟨r, hr⟩ := Option.isSome_iff_exists.1 (hn X rfl)
      refine ⟨r, .float k r, w, Ex.cff hx hS hT hr _ _ _ _ _ a w hF hH, ?_, hF.put hd _, hH⟩
      refine ⟨(show Is k r (floatToFloatBits s X k) from ?_), cv_lt hsk hr⟩
      rw [hr]; exact ⟨rfl, cv_ne hsk hr⟩
    | none =>
      obtain ⟨sg, f, e⟩ := nan_of hX
      have e' : s.decode X = .nan sg f := e
      refine ⟨(Question.nanConv k X).cut (w.tape w.drawn (.nanConv k X)), .float k _, { w with drawn := w.drawn + 1 }, ?_, ⟨drawn_nan k _ _ (.inr ⟨_, rfl⟩), drawn_lt k _ _ (.inr ⟨_, rfl⟩)⟩, hF.put hd _, hH.drew⟩
      refine run_v' ?_
      show (convert S T (a.eval x)).run P w = _
      rw [hF.eval hx]
      cases dS <;> simp [convert, run_underlying hS, run_underlying hT, Conv.floatToFloat, hsk, e', Question.forced]
theorem Ex.minI3 {x y z : Operand} {k : IntKind} {X Y U Z : Int} {tys : Array TypeId} (hx : opv l x = some (.int k X)) (hy : opv l y = some (.int k Y)) (hu : opv l z = some (.int k U)) (hz : (if U < (if Y < X then Y else X) then U else (if Y < X then Y else X)) = Z) : Ex P n M w0 l L (.call ⟨.builtin .min, #[x, y, z], tys⟩) (.int k Z) := fun d ty pos af g a w hF hH => by
  show (do let d ← resolve a.eval ⟨.builtin .min, #[x, y, z], tys⟩ ty; invoke d.target d.args : Sem Next).run P w = _
  simp [resolve, invoke, builtin, Builtin.min_, Builtin.min2, hF.eval hx, hF.eval hy, hF.eval hu, hz]
theorem Ex.maxI3 {x y z : Operand} {k : IntKind} {X Y U Z : Int} {tys : Array TypeId} (hx : opv l x = some (.int k X)) (hy : opv l y = some (.int k Y)) (hu : opv l z = some (.int k U)) (hz : (if (if X < Y then Y else X) < U then U else (if X < Y then Y else X)) = Z) : Ex P n M w0 l L (.call ⟨.builtin .max, #[x, y, z], tys⟩) (.int k Z) := fun d ty pos af g a w hF hH => by
  show (do let d ← resolve a.eval ⟨.builtin .max, #[x, y, z], tys⟩ ty; invoke d.target d.args : Sem Next).run P w = _
  simp [resolve, invoke, builtin, Builtin.max_, Builtin.max2, hF.eval hx, hF.eval hy, hF.eval hu, hz]
theorem min643 (x y z : Int) : (if z < (if y < x then y else x) then z else (if y < x then y else x)) = min (min x y) z := by rw [min64, min64]
theorem max643 (x y z : Int) : (if (if x < y then y else x) < z then z else (if x < y then y else x)) = max (max x y) z := by rw [max64, max64]
end
theorem andm64 {X : Int} (m : Nat) {Z : Int} (h0 : 0 ≤ X) (h1 : X < 18446744073709551616) (hm : m ≤ 64) (hz : X % 2 ^ m = Z) {Y : Int} (hY : Y = 2 ^ m - 1) :
    IntKind.u64.wrap (if BinOp.and = BinOp.and then (BitVec.ofInt IntKind.u64.bits X &&& BitVec.ofInt IntKind.u64.bits Y).toNat else (BitVec.ofInt IntKind.u64.bits X ||| BitVec.ofInt IntKind.u64.bits Y).toNat : Nat) = Z := by
  rw [if_pos rfl]
  have e32 : IntKind.u64.bits = 64 := rfl
  obtain ⟨a, rfl⟩ := Int.eq_ofNat_of_zero_le h0
  have hp : (2 : Nat) ^ m ≤ 2 ^ 64 := Nat.pow_le_pow_right (by decide) hm
  have h2 : 1 ≤ (2 : Nat) ^ m := Nat.one_le_two_pow
  have hY' : Y = (((2 : Nat) ^ m - 1 : Nat) : Int) := by rw [hY]; push_cast [h2]; rfl
  subst hY'
  rw [BitVec.toNat_and, BitVec.toNat_ofInt, BitVec.toNat_ofInt, e32, ← hz]
  have e1 : (((a : Nat) : Int) % ((2 ^ 64 : Nat) : Int)).toNat = a := by omega
  have e2 : ((((2 : Nat) ^ m - 1 : Nat) : Int) % ((2 ^ 64 : Nat) : Int)).toNat = 2 ^ m - 1 := by
    rw [Int.emod_eq_of_lt (by omega) (by omega)]; omega
  rw [e1, e2, Nat.and_two_pow_sub_one_eq_mod, wu64]
  have h3 : a % 2 ^ m ≤ a := Nat.mod_le _ _
  have h4 : ((a % 2 ^ m : Nat) : Int) = (a : Int) % 2 ^ m := by push_cast; rfl
  rw [← h4]; omega
/-- A bit above a number's bits: a sum. -/
theorem orm64 {X Y : Int} (m : Nat) {Z : Int} (hX : 0 ≤ X ∧ X < 2 ^ m) (hm : m < 64) (hY : Y = 2 ^ m) (hz : X + Y = Z) :
    IntKind.u64.wrap (if BinOp.or = BinOp.and then (BitVec.ofInt IntKind.u64.bits X &&& BitVec.ofInt IntKind.u64.bits Y).toNat else (BitVec.ofInt IntKind.u64.bits X ||| BitVec.ofInt IntKind.u64.bits Y).toNat : Nat) = Z := by
  rw [if_neg (by decide)]
  have e32 : IntKind.u64.bits = 64 := rfl
  obtain ⟨a, rfl⟩ := Int.eq_ofNat_of_zero_le hX.1
  have hX2 : a < 2 ^ m := by have := hX.2; exact_mod_cast this
  have hp : (2 : Nat) ^ m < 2 ^ 64 := Nat.pow_lt_pow_right (by decide) hm
  have hY' : Y = ((2 ^ m : Nat) : Int) := by rw [hY]; push_cast; rfl
  subst hY'
  rw [BitVec.toNat_or, BitVec.toNat_ofInt, BitVec.toNat_ofInt, e32, ← hz]
  have e1 : (((a : Nat) : Int) % ((2 ^ 64 : Nat) : Int)).toNat = a := by omega
  have e2 : (((2 ^ m : Nat) : Int) % ((2 ^ 64 : Nat) : Int)).toNat = 2 ^ m := by omega
  have e3 := Nat.two_pow_add_eq_or_of_lt hX2 1
  rw [Nat.mul_one] at e3
  rw [e1, e2, Nat.or_comm, ← e3, wu64]
  have h2 : (2 : Nat) ^ m + a < 2 ^ 64 := by
    have h5 : (2 : Nat) ^ m + 2 ^ m ≤ 2 ^ 64 := by
      have : (2 : Nat) ^ (m + 1) ≤ 2 ^ 64 := Nat.pow_le_pow_right (by decide) hm
      rw [Nat.pow_succ] at this; omega
    omega
  push_cast
  have h6 : ((2 : Nat) ^ m : Nat) = ((2 : Nat) ^ m) := rfl
  have h7 : (((2 ^ m + a : Nat)) : Int) < 18446744073709551616 := by omega
  push_cast at h7
  omega
end Sx
