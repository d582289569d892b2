/- A word's parts and its size: plain laws. -/
import Derived.Test.YtnpkblidlmkagaaFl5
import Derived.Test.YtnpkblidlmkagaaW13
set_option linter.unusedSimpArgs false
set_option linter.unusedVariables false
namespace Go.Proofs.Ytnpkblidlmkagaa
open Go.RowKit Fl

theorem pm_norm {x : Nat} (hx : Fnt x) : pe x = -1074 ∨ 2 ^ 52 ≤ (pm x).natAbs := by
  unfold pe pm
  by_cases h : x / 2 ^ 52 % 2048 = 0
  · left; rw [if_pos h]; rfl
  · right
    have e52 : (2 : Int) ^ 52 = 4503599627370496 := by decide
    simp only [if_neg h]
    split <;> omega

theorem iv_abs {x : Nat} (hx : Fnt x) : (iv x).natAbs = (pm x).natAbs * 2 ^ (pe x + 1074).toNat := by
  rw [(iv_parts hx).1, Int.natAbs_mul, Int.natAbs_pow]; rfl

theorem pow_lt_inv {a b : Nat} (h : 2 ^ a < 2 ^ b) : a < b := by
  apply Decidable.byContradiction
  intro hc
  have := pow_mono (show b ≤ a by omega)
  omega

/-- From a float's size to its exponent. -/
theorem pe_lo {x a : Nat} (hx : Fnt x) (lo : 2 ^ a ≤ (iv x).natAbs) : (a : Int) - 52 - 1074 ≤ pe x := by
  obtain ⟨_, h2, h3, h4, h5⟩ := iv_parts hx
  rw [iv_abs hx] at lo
  have h6 : (pm x).natAbs * 2 ^ (pe x + 1074).toNat < 2 ^ 53 * 2 ^ (pe x + 1074).toNat := Nat.mul_lt_mul_of_pos_right (by omega) (Nat.two_pow_pos _)
  rw [← Nat.pow_add] at h6
  have := pow_lt_inv (Nat.lt_of_le_of_lt lo h6)
  omega

theorem pe_hi {x b : Nat} (hx : Fnt x) (hi : (iv x).natAbs < 2 ^ b) : pe x = -1074 ∨ pe x ≤ (b : Int) - 53 - 1074 := by
  obtain ⟨_, h2, h3, h4, h5⟩ := iv_parts hx
  rcases pm_norm hx with h | h
  · exact .inl h
  · right
    rw [iv_abs hx] at hi
    have h6 : 2 ^ 52 * 2 ^ (pe x + 1074).toNat ≤ (pm x).natAbs * 2 ^ (pe x + 1074).toNat := Nat.mul_le_mul_right _ h
    rw [← Nat.pow_add] at h6
    have := pow_lt_inv (Nat.lt_of_le_of_lt h6 hi)
    omega

theorem pm_zero {x : Nat} (hx : Fnt x) (h : iv x = 0) : pm x = 0 := by
  have := iv_abs hx
  rw [h] at this
  have h2 : (pm x).natAbs * 2 ^ (pe x + 1074).toNat = 0 := by rw [← this]; rfl
  rcases Nat.mul_eq_zero.1 h2 with h3 | h3
  · omega
  · have := Nat.two_pow_pos (pe x + 1074).toNat; omega

theorem Mk.abs {x : Nat} {A : Int} {k : Nat} (h : Mk x A k) : (iv x).natAbs = A.natAbs * 2 ^ k := by
  rw [h.e, Int.natAbs_mul, Int.natAbs_pow]; rfl

theorem Mk.lo {x : Nat} {A : Int} {k : Nat} (h : Mk x A k) (h0 : A ≠ 0) : (k : Int) - 1074 ≤ pe x := by
  have h1 : 2 ^ (52 + k) ≤ (iv x).natAbs := by
    rw [h.abs, Nat.pow_add]
    exact Nat.mul_le_mul_right _ (by rcases h.n with h | h; exact absurd h h0; exact h)
  have := pe_lo h.f h1
  omega

theorem Mk.hi {x : Nat} {A : Int} {k : Nat} (h : Mk x A k) : pe x ≤ (k : Int) - 1074 := by
  have h1 : (iv x).natAbs < 2 ^ (53 + k) := by
    rw [h.abs, Nat.pow_add]
    exact Nat.mul_lt_mul_of_pos_right h.lt (Nat.two_pow_pos _)
  have := pe_hi h.f h1
  omega

/-- What Times adds, in Add's units. -/
theorem times_units {x y : Nat} {P : Int} (hx : Fnt x) (hy : Fnt y) (hP : iv x * iv y = P * 2 ^ U) (h : (pm x = 0 ∨ pm y = 0) ∨ -1200 ≤ pe x + pe y) :
    pm x * pm y * 2 ^ (pe x + pe y + 1200).toNat = P * 2 ^ 126 := by
  obtain ⟨e1, _, _, h4, h5⟩ := iv_parts hx
  obtain ⟨e2, _, _, g4, g5⟩ := iv_parts hy
  have hq := pow_pos_int 948
  have hprod : pm x * pm y * (2 ^ (pe x + 1074).toNat * 2 ^ (pe y + 1074).toNat) = P * 2 ^ U := by
    rw [← hP, e1, e2, Int.mul_assoc, Int.mul_assoc, Int.mul_left_comm (pm y)]
  rw [← Int.pow_add] at hprod
  rcases h with h | h
  · have h0 : pm x * pm y = 0 := by rcases h with h | h <;> rw [h] <;> simp
    rw [h0, Int.zero_mul] at hprod
    have hp := pow_pos_int U
    have hP0 : P = 0 := by
      rcases Int.mul_eq_zero.1 hprod.symm with h | h
      · exact h
      · omega
    rw [h0, hP0, Int.zero_mul, Int.zero_mul]
  · have e : (pe x + 1074).toNat + (pe y + 1074).toNat = (pe x + pe y + 1200).toNat + 948 := by omega
    rw [e, Int.pow_add, show U = 126 + 948 from U_eq, Int.pow_add 2 126, ← Int.mul_assoc, ← Int.mul_assoc] at hprod
    exact Int.eq_of_mul_eq_mul_right (by omega) hprod

/-- A small whole number times a power of two has few bits. -/
theorem few_of {x : Nat} {c : Int} {k : Nat} (hx : Fnt x) (hc : iv x = c * 2 ^ k) (hs : c.natAbs < 134217728) : FewAt (pm x).natAbs := by
  have h := iv_abs hx
  rw [hc, Int.natAbs_mul, Int.natAbs_pow] at h
  have h : c.natAbs * 2 ^ k = (pm x).natAbs * 2 ^ (pe x + 1074).toNat := h
  generalize (pe x + 1074).toNat = q at h
  by_cases hq : q ≤ k
  · refine ⟨c.natAbs, k - q, ?_, hs⟩
    have e : 2 ^ k = 2 ^ (k - q) * 2 ^ q := by rw [← Nat.pow_add]; congr 1; omega
    rw [e, ← Nat.mul_assoc] at h
    exact (Nat.eq_of_mul_eq_mul_right (Nat.two_pow_pos _) h).symm
  · refine ⟨(pm x).natAbs, 0, by simp, ?_⟩
    have e : 2 ^ q = 2 ^ (q - k) * 2 ^ k := by rw [← Nat.pow_add]; congr 1; omega
    rw [e, ← Nat.mul_assoc] at h
    have := Nat.eq_of_mul_eq_mul_right (Nat.two_pow_pos _) h
    have h1 := Nat.two_pow_pos (q - k)
    have : (pm x).natAbs * 1 ≤ (pm x).natAbs * 2 ^ (q - k) := Nat.mul_le_mul_left _ h1
    omega

end Go.Proofs.Ytnpkblidlmkagaa
