/- One round of the quotient: from a quotient that is near to one that is nearer. -/
import Derived.Test.YtnpkblidlmkagaaFl11
import Derived.Test.YtnpkblidlmkagaaW28
import Derived.Test.YtnpkblidlmkagaaW27
set_option linter.unusedSimpArgs false
set_option linter.unusedVariables false
namespace Go.Proofs.Ytnpkblidlmkagaa
open Fl

theorem part_le {N : Nat} (u : Int) {v x : Int} (h : N * v.natAbs ≤ x.natAbs) : N * (u * v).natAbs ≤ (u * x).natAbs := by
  rw [Int.natAbs_mul, Int.natAbs_mul, Nat.mul_left_comm]
  exact Nat.mul_le_mul_left _ h

theorem part_le' {N : Nat} (u : Int) {v x : Int} (h : N * v.natAbs ≤ x.natAbs) : N * (v * u).natAbs ≤ (x * u).natAbs := by
  rw [Int.mul_comm v, Int.mul_comm x]; exact part_le u h

theorem prod_expand (a b c d : Int) : (a + b) * (c + d) = a * c + a * d + b * c + b * d := by
  rw [Int.add_mul, Int.mul_add, Int.mul_add]; omega

/-- The whole products of two numbers against those of their first parts. -/
theorem parts4 {c d e f : Int} (hd : 9007199254740990 * d.natAbs ≤ c.natAbs) (hf : 9007199254740990 * f.natAbs ≤ e.natAbs) :
    9007199254740990 * (c * f).natAbs ≤ (c * e).natAbs ∧ 9007199254740990 * (d * e).natAbs ≤ (c * e).natAbs ∧ 9007199254740990 * (9007199254740990 * (d * f).natAbs) ≤ (c * e).natAbs := by
  have h1 := part_le c hf
  have h2 := part_le' e hd
  have h3 := part_le d hf
  exact ⟨h1, h2, Nat.le_trans (Nat.mul_le_mul_left _ h3) h2⟩

/-- How great the first product is. X = aS + bS, Bq = w0 + w1 + w2 + w3. -/
theorem quo_first {X Bq aS bS w0 w1 w2 w3 : Int} {Z W : Int} (hZ : Z = aS.natAbs) (hW : W = w0.natAbs) (hX : X = aS + bS) (hB : Bq = w0 + w1 + w2 + w3) (hb : 9007199254740990 * bS.natAbs ≤ aS.natAbs)
    (h1 : 9007199254740990 * w1.natAbs ≤ w0.natAbs) (h2 : 9007199254740990 * w2.natAbs ≤ w0.natAbs) (h3 : 9007199254740990 * (9007199254740990 * w3.natAbs) ≤ w0.natAbs)
    (g1 : 1125899906842624 * (X - Bq) ≤ Z) (g2 : -Z ≤ 1125899906842624 * (X - Bq)) :
    1099511627776 * W ≤ 1099511627777 * Z ∧ 1099511627775 * Z ≤ 1099511627776 * W := by
  have b1 : 9007199254740990 * bS ≤ Z ∧ -Z ≤ 9007199254740990 * bS := by omega
  have c1 : 9007199254740990 * w1 ≤ W ∧ -W ≤ 9007199254740990 * w1 := by omega
  have c2 : 9007199254740990 * w2 ≤ W ∧ -W ≤ 9007199254740990 * w2 := by omega
  have c3 : 9007199254740990 * w3 ≤ W ∧ -W ≤ 9007199254740990 * w3 := by omega
  have s1 : (aS = Z ∨ aS = -Z) ∧ 0 ≤ Z := by omega
  have s2 : (w0 = W ∨ w0 = -W) ∧ 0 ≤ W := by omega
  clear hZ hW hb h1 h2 h3
  subst hX hB
  rcases s1.1 with h | h <;> rcases s2.1 with h' | h' <;> subst h h' <;> omega

/-- q is near to the quotient: N times what is left behind is below the first part. -/
structure NearQ (a b c d e f : Nat) (S N : Int) : Prop where
  fe : Fnt e
  ff : Fnt f
  neat : iv e = rnd (iv e + iv f)
  n1 : N * ((iv a + iv b) * S - (iv c + iv d) * (iv e + iv f)) ≤ ((iv a * S).natAbs : Int)
  n2 : -((iv a * S).natAbs : Int) ≤ N * ((iv a + iv b) * S - (iv c + iv d) * (iv e + iv f))

@[irreducible] def qloE : Nat := 790
theorem qloE_eq : qloE = 790 := by unfold qloE; rfl
@[irreducible] def qhiE : Nat := 1358
theorem qhiE_eq : qhiE = 1358 := by unfold qhiE; rfl

theorem abs_lt_mul {x y : Int} {m n : Nat} (h1 : x.natAbs < 2 ^ m) (h2 : y.natAbs < 2 ^ n) : (x * y).natAbs < 2 ^ (m + n) := by
  rw [Int.natAbs_mul, Nat.pow_add]; exact Nat.mul_lt_mul'' h1 h2

theorem abs_ge_mul {x y : Int} {m n : Nat} (h1 : 2 ^ m ≤ x.natAbs) (h2 : 2 ^ n ≤ y.natAbs) : 2 ^ (m + n) ≤ (x * y).natAbs := by
  rw [Int.natAbs_mul, Nat.pow_add]; exact Nat.mul_le_mul h1 h2

/-- How great a near quotient's first part is. -/
theorem quo_size {a b c d e f : Nat} {S : Int} (hS : S = ((2 ^ U : Nat) : Int)) (ta : Tame a b) (tc : Tame c d) (a0 : iv a ≠ 0) (c0 : iv c ≠ 0) (h : NearQ a b c d e f S 1125899906842624) :
    1099511627776 * ((iv c * iv e).natAbs : Int) ≤ 1099511627777 * ((iv a * S).natAbs : Int) ∧ 1099511627775 * ((iv a * S).natAbs : Int) ≤ 1099511627776 * ((iv c * iv e).natAbs : Int) ∧
      2 ^ qloE ≤ (iv e).natAbs ∧ (iv e).natAbs < 2 ^ qhiE := by
  have tb := ta.second
  have td := tc.second
  have tf : 9007199254740990 * (iv f).natAbs ≤ (iv e).natAbs := by
    have := tame_second h.neat.symm
    omega
  have hb := part_le' S tb
  obtain ⟨p1, p2, p3⟩ := parts4 td tf
  obtain ⟨w1, w2⟩ := quo_first (X := (iv a + iv b) * S) (Bq := (iv c + iv d) * (iv e + iv f)) (aS := iv a * S) (bS := iv b * S) (w0 := iv c * iv e) (w1 := iv c * iv f) (w2 := iv d * iv e) (w3 := iv d * iv f) rfl rfl (Int.add_mul _ _ _) (prod_expand _ _ _ _) hb p1 p2 p3 h.n1 h.n2
  refine ⟨w1, w2, ?_, ?_⟩
  · apply Decidable.byContradiction
    intro hc
    have hlo := loE_eq
    have hhi := hiE_eq
    have hU := U_eq
    have hq1 := qloE_eq
    have hq2 := qhiE_eq
    obtain ⟨la, ha⟩ : 2 ^ loE ≤ (iv a).natAbs ∧ (iv a).natAbs < 2 ^ hiE := by rcases ta.size with ⟨h, _⟩ | h; exact absurd h a0; exact h
    obtain ⟨lc, hc'⟩ : 2 ^ loE ≤ (iv c).natAbs ∧ (iv c).natAbs < 2 ^ hiE := by rcases tc.size with ⟨h, _⟩ | h; exact absurd h c0; exact h
    have l1 := abs_lt_mul hc' (Nat.lt_of_not_le hc)
    have l2 := abs_ge_mul la (y := S) (n := U) (by rw [hS]; exact Nat.le_refl _)
    have l3 : 2 ^ (hiE + qloE) * 2 ≤ 2 ^ (loE + U) := by rw [← Nat.pow_succ]; exact pow_mono (by omega)
    generalize 2 ^ (hiE + qloE) = P at *
    generalize 2 ^ (loE + U) = Q at *
    omega
  · apply Decidable.byContradiction
    intro hc
    have hlo := loE_eq
    have hhi := hiE_eq
    have hU := U_eq
    have hq1 := qloE_eq
    have hq2 := qhiE_eq
    obtain ⟨la, ha⟩ : 2 ^ loE ≤ (iv a).natAbs ∧ (iv a).natAbs < 2 ^ hiE := by rcases ta.size with ⟨h, _⟩ | h; exact absurd h a0; exact h
    obtain ⟨lc, hc'⟩ : 2 ^ loE ≤ (iv c).natAbs ∧ (iv c).natAbs < 2 ^ hiE := by rcases tc.size with ⟨h, _⟩ | h; exact absurd h c0; exact h
    have l1 := abs_ge_mul lc (Nat.le_of_not_lt hc)
    have l2 := abs_lt_mul ha (y := S) (n := U + 1) (by rw [hS]; show 2 ^ U < 2 ^ (U + 1); exact Nat.pow_lt_pow_right (by omega) (by omega))
    have l3 : 2 ^ (hiE + (U + 1)) * 2 ≤ 2 ^ (loE + qhiE) := by rw [← Nat.pow_succ]; exact pow_mono (by omega)
    generalize 2 ^ (hiE + (U + 1)) = P at *
    generalize 2 ^ (loE + qhiE) = Q at *
    omega

end Go.Proofs.Ytnpkblidlmkagaa
