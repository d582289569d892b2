/- What operations on floats give where every NaN is made one: plain functions of the operands. -/
import Derived.Test.YtbobmhobaaeohaaMQ1
import Derived.Deep.Draws
set_option linter.unusedSimpArgs false
set_option linter.unusedVariables false
namespace Go.Proofs.Ytbobmhobaaeohaa
open Go.RowKit Go.Lib

def isN (x : Nat) : Bool := (Ieee.double.read x).isNaN
theorem nz_eq (x : Nat) : nz x = if isN x then 9221120237041090560 else x := rfl
theorem isN_nan : isN 9221120237041090560 = true := by decide
theorem read_word (neg : Bool) (r : Nat) (h : r < 9223372036854775808) : Ieee.double.read (Ieee.double.word neg r) = Ieee.double.read (if neg then 9223372036854775808 + r else r) := by
  unfold Ieee.Format.word; rfl
theorem isN_word (neg : Bool) (r : Nat) (h : r ≤ 9218868437227405312) : isN (Ieee.double.word neg r) = false := by
  have hs : Ieee.double.signWeight = 9223372036854775808 := by decide
  have hi : Ieee.double.infRung = 9218868437227405312 := by decide
  have hm : Ieee.double.word neg r % Ieee.double.signWeight = r := by
    unfold Ieee.Format.word
    rw [hs]
    cases neg
    · show r % 9223372036854775808 = r
      exact Nat.mod_eq_of_lt (by omega)
    · show (9223372036854775808 + r) % 9223372036854775808 = r
      omega
  unfold isN Ieee.Format.read
  dsimp only
  rw [hm, hi]
  by_cases h1 : r < Ieee.double.binade
  · rw [if_pos h1]; rfl
  · rw [if_neg h1]
    by_cases h2 : r < 9218868437227405312
    · rw [if_pos h2]; rfl
    · rw [if_neg h2, if_pos (by omega)]; rfl
theorem isN_write (d : Ieee.Datum) (h : d.isNaN = false) : isN (Ieee.double.write d) = false := by
  cases d with
  | number neg m p =>
    show isN (Ieee.double.nearest neg m p) = false
    unfold Ieee.Format.nearest
    by_cases h0 : m = 0
    · rw [if_pos h0]; exact isN_word _ _ (by omega)
    · rw [if_neg h0]
      dsimp only
      refine isN_word _ _ ?_
      have hi : Ieee.double.infRung = 9218868437227405312 := by decide
      rw [hi]
      exact Nat.min_le_right _ _
  | infinity neg => exact isN_word _ _ (by decide)
  | nan neg f => cases h

/-- An operation that gives no number of what is no number, and else a number. -/
structure GoodF (f : Nat → Nat → Option Nat) : Prop where
  l : ∀ x y, isN x = true → f x y = none
  r : ∀ x y, isN y = true → f x y = none
  out : ∀ x y z, f x y = some z → isN z = false
  lt : ∀ x y z, f x y = some z → z < 18446744073709551616
theorem sum_nan (a b : Ieee.Datum) : (a.isNaN = true → a.sum b = none) ∧ (b.isNaN = true → a.sum b = none) ∧ ∀ d, a.sum b = some d → d.isNaN = false := by
  refine ⟨fun h => ?_, fun h => ?_, fun d h => ?_⟩
  · cases a <;> cases b <;> first | cases h; done | rfl
  · cases a <;> cases b <;> first | cases h; done | rfl
  · cases a <;> cases b <;> simp only [Ieee.Datum.sum] at h <;> first | (cases h; done) | skip
    all_goals first | (split at h <;> first | (cases h; done) | (cases h; rfl)) | (cases h; rfl)
theorem prod_nan (a b : Ieee.Datum) : (a.isNaN = true → a.product b = none) ∧ (b.isNaN = true → a.product b = none) ∧ ∀ d, a.product b = some d → d.isNaN = false := by
  refine ⟨fun h => ?_, fun h => ?_, fun d h => ?_⟩
  · cases a <;> cases b <;> first | cases h; done | rfl
  · cases a <;> cases b <;> first | cases h; done | rfl
  · cases a <;> cases b <;> simp only [Ieee.Datum.product] at h <;> first | (cases h; done) | skip
    all_goals first | (split at h <;> first | (cases h; done) | (cases h; rfl)) | (cases h; rfl)
theorem quo_nan (n : Nat) (a b : Ieee.Datum) : (a.isNaN = true → a.quotient n b = none) ∧ (b.isNaN = true → a.quotient n b = none) ∧ ∀ d, a.quotient n b = some d → d.isNaN = false := by
  refine ⟨fun h => ?_, fun h => ?_, fun d h => ?_⟩
  · cases a <;> cases b <;> first | cases h; done | rfl
  · cases a <;> cases b <;> first | cases h; done | rfl
  · cases a <;> cases b <;> simp only [Ieee.Datum.quotient] at h <;> first | (cases h; done) | skip
    all_goals first | (split at h <;> first | (split at h <;> first | (cases h; done) | (cases h; rfl)) | (cases h; rfl)) | (cases h; rfl)
theorem opp_nan (a : Ieee.Datum) : a.opposite.isNaN = a.isNaN := by cases a <;> rfl
theorem map_out {o : Option Ieee.Datum} {z : Nat} (h : o.map Ieee.double.write = some z) (H : ∀ d, o = some d → d.isNaN = false) : isN z = false := by
  cases o with
  | none => cases h
  | some d => cases h; exact isN_write d (H d rfl)
theorem good_add : GoodF Ieee.double.add where
  l x y h := by unfold Ieee.Format.add; rw [(sum_nan _ _).1 h]; rfl
  r x y h := by unfold Ieee.Format.add; rw [(sum_nan _ _).2.1 h]; rfl
  out x y z h := map_out h (sum_nan _ _).2.2
  lt x y z h := Ieee.double.add_lt h
theorem good_sub : GoodF Ieee.double.sub where
  l x y h := by unfold Ieee.Format.sub; rw [(sum_nan _ _).1 h]; rfl
  r x y h := by unfold Ieee.Format.sub; rw [(sum_nan _ _).2.1 (by rw [opp_nan]; exact h)]; rfl
  out x y z h := map_out h (sum_nan _ _).2.2
  lt x y z h := Ieee.double.sub_lt h
theorem good_mul : GoodF Ieee.double.mul where
  l x y h := by unfold Ieee.Format.mul; rw [(prod_nan _ _).1 h]; rfl
  r x y h := by unfold Ieee.Format.mul; rw [(prod_nan _ _).2.1 h]; rfl
  out x y z h := map_out h (prod_nan _ _).2.2
  lt x y z h := Ieee.double.mul_lt h
theorem good_div : GoodF Ieee.double.div where
  l x y h := by unfold Ieee.Format.div; rw [(quo_nan _ _ _).1 h]; rfl
  r x y h := by unfold Ieee.Format.div; rw [(quo_nan _ _ _).2.1 h]; rfl
  out x y z h := map_out h (quo_nan _ _ _).2.2
  lt x y z h := Ieee.double.div_lt h

/-- What comes of it, NaN made one. -/
def fN (f : Nat → Nat → Option Nat) (x y : Nat) : Nat := (f x y).getD 9221120237041090560
def fres (f : Nat → Nat → Option Nat) (x y : Nat) (w : World) : Nat := match f x y with
  | some r => r
  | none => (Question.nanBits .f64 x y).cut (w.tape w.drawn (.nanBits .f64 x y))
def fk (f : Nat → Nat → Option Nat) (x y : Nat) : Nat := match f x y with
  | some _ => 0
  | none => 1
theorem isN_big (x : Nat) (h : 9218868437227405312 < x % 9223372036854775808) : isN x = true := by
  have hs : Ieee.double.signWeight = 9223372036854775808 := by decide
  have hi : Ieee.double.infRung = 9218868437227405312 := by decide
  have hb : Ieee.double.binade = 4503599627370496 := by decide
  unfold isN Ieee.Format.read
  dsimp only
  rw [hs, hi, hb]
  generalize x % 9223372036854775808 = r at *
  rw [if_neg (by omega), if_neg (by omega), if_neg (by omega)]
  rfl
theorem isN_cut (x y t : Nat) : isN ((Question.nanBits .f64 x y).cut t) = true := by
  have e : (Question.nanBits .f64 x y).cut t = (t % 2) * 9223372036854775808 + 9218868437227405312 + 1 + (t / 2) % 4503599627370495 := rfl
  rw [e]
  have h1 : t % 2 < 2 := Nat.mod_lt _ (by decide)
  have h2 : (t / 2) % 4503599627370495 < 4503599627370495 := Nat.mod_lt _ (by decide)
  generalize t % 2 = a at *
  generalize (t / 2) % 4503599627370495 = c at *
  exact isN_big _ (by omega)
theorem nz_fres {f : Nat → Nat → Option Nat} (hf : GoodF f) (x y : Nat) (w : World) : nz (fres f x y w) = fN f (nz x) (nz y) := by
  cases h : f x y with
  | some r =>
    have hx : isN x = false := by cases e : isN x; rfl; rw [hf.l x y e] at h; cases h
    have hy : isN y = false := by cases e : isN y; rfl; rw [hf.r x y e] at h; cases h
    unfold fres fN
    rw [h, nz_eq x, nz_eq y, hx, hy]
    simp only [Bool.false_eq_true, if_false]
    rw [h, nz_eq, hf.out x y r h]
    rfl
  | none =>
    have hc : nz (fres f x y w) = 9221120237041090560 := by
      unfold fres
      rw [h, nz_eq, isN_cut]
      rfl
    have hn : f (nz x) (nz y) = none := by
      cases ex : isN x
      · cases ey : isN y
        · rw [nz_eq, nz_eq, ex, ey]; exact h
        · exact hf.r _ _ (by rw [nz_eq y, ey]; exact isN_nan)
      · exact hf.l _ _ (by rw [nz_eq x, ex]; exact isN_nan)
    rw [hc]
    unfold fN
    rw [hn]
    rfl
theorem fres_lt {f : Nat → Nat → Option Nat} (hf : GoodF f) (x y : Nat) (w : World) : fres f x y w < 18446744073709551616 := by
  cases h : f x y with
  | some r => unfold fres; rw [h]; exact hf.lt x y r h
  | none =>
    unfold fres
    rw [h]
    show (w.tape w.drawn _ % 2) * 9223372036854775808 + 9218868437227405312 + 1 + (w.tape w.drawn _ / 2) % 4503599627370495 < _
    omega
theorem nz_of {x : Nat} (h : isN x = false) : nz x = x := by rw [nz_eq, h]; rfl
theorem nz_nz (x : Nat) : nz (nz x) = nz x := by
  cases e : isN x
  · rw [nz_of e, nz_of e]
  · rw [nz_eq x, e]; rfl

section
variable {P : Program}
theorem run_faddN (t : TypeId) (x y : Nat) (w : World) : (binOp .add t (.float .f64 x) (.float .f64 y)).run P w = .ok (.float .f64 (fres Ieee.double.add x y w)) (w.drewN (fk Ieee.double.add x y)) := by
  cases h : Ieee.double.add x y <;> (have h' : FloatKind.f64.format.add x y = _ := h; simp [binOp, Op.floatArith, h', h, fres, fk, Question.forced]; try rfl)
theorem run_fsubN (t : TypeId) (x y : Nat) (w : World) : (binOp .sub t (.float .f64 x) (.float .f64 y)).run P w = .ok (.float .f64 (fres Ieee.double.sub x y w)) (w.drewN (fk Ieee.double.sub x y)) := by
  cases h : Ieee.double.sub x y <;> (have h' : FloatKind.f64.format.sub x y = _ := h; simp [binOp, Op.floatArith, h', h, fres, fk, Question.forced]; try rfl)
theorem run_fmulN (t : TypeId) (x y : Nat) (w : World) : (binOp .mul t (.float .f64 x) (.float .f64 y)).run P w = .ok (.float .f64 (fres Ieee.double.mul x y w)) (w.drewN (fk Ieee.double.mul x y)) := by
  cases h : Ieee.double.mul x y <;> (have h' : FloatKind.f64.format.mul x y = _ := h; simp [binOp, Op.floatArith, h', h, fres, fk, Question.forced]; try rfl)
theorem run_fquoN (t : TypeId) (x y : Nat) (w : World) : (binOp .quo t (.float .f64 x) (.float .f64 y)).run P w = .ok (.float .f64 (fres Ieee.double.div x y w)) (w.drewN (fk Ieee.double.div x y)) := by
  cases h : Ieee.double.div x y <;> (have h' : FloatKind.f64.format.div x y = _ := h; simp [binOp, Op.floatArith, h', h, fres, fk, Question.forced]; try rfl)
end
end Go.Proofs.Ytbobmhobaaeohaa
