/- How math/bits.Div64 divides: the plain law. -/
import Derived.Test.YtmgfaeineklccaaGreatMW1
import Derived.ProofKit
set_option linter.unusedSimpArgs false
set_option linter.unusedVariables false
namespace Go.Proofs.YtmgfaeineklccaaGreat

/-- One digit's guess: never below the digit. -/
structure Guess (y1 y0 U u : Nat) (q rh : Nat) : Prop where
  sum : q * y1 + rh = U
  ge : (U * 4294967296 + u) / (y1 * 4294967296 + y0) ≤ q
/-- How long a number is in bits. -/
def LenOf (x n : Nat) : Prop := 1 ≤ n ∧ n ≤ 64 ∧ 2 ^ (n - 1) ≤ x ∧ x < 2 ^ n
end Go.Proofs.YtmgfaeineklccaaGreat
/- math/bits.Len64 and LeadingZeros64. -/
set_option linter.unusedSimpArgs false
set_option linter.unusedVariables false
namespace Go.Proofs.YtmgfaeineklccaaGreat
open Go.RowKit Go.Lib

theorem LenOf.up {x n k : Nat} (h : LenOf (x / 2 ^ k) n) (hk : n + k ≤ 64) : LenOf x (n + k) := by
  obtain ⟨h1, h2, h3, h4⟩ := h
  refine ⟨by omega, hk, ?_, ?_⟩
  · rw [show n + k - 1 = n - 1 + k from by omega, Nat.pow_add]
    exact (Nat.le_div_iff_mul_le (Nat.two_pow_pos k)).1 h3
  · rw [Nat.pow_add]
    exact (Nat.div_lt_iff_lt_mul (Nat.two_pow_pos k)).1 h4
set_option maxRecDepth 100000 in
theorem tab_all : ∀ k : Fin 256, 1 ≤ k.1 → 1 ≤ (({ data := #[0, 1, 2, 2, 3, 3, 3, 3, 4, 4, 4, 4, 4, 4, 4, 4, 5, 5, 5, 5, 5, 5, 5, 5, 5, 5, 5, 5, 5, 5, 5, 5, 6, 6, 6, 6, 6, 6, 6, 6, 6, 6, 6, 6, 6, 6, 6, 6, 6, 6, 6, 6, 6, 6, 6, 6, 6, 6, 6, 6, 6, 6, 6, 6, 7, 7, 7, 7, 7, 7, 7, 7, 7, 7, 7, 7, 7, 7, 7, 7, 7, 7, 7, 7, 7, 7, 7, 7, 7, 7, 7, 7, 7, 7, 7, 7, 7, 7, 7, 7, 7, 7, 7, 7, 7, 7, 7, 7, 7, 7, 7, 7, 7, 7, 7, 7, 7, 7, 7, 7, 7, 7, 7, 7, 7, 7, 7, 7, 8, 8, 8, 8, 8, 8, 8, 8, 8, 8, 8, 8, 8, 8, 8, 8, 8, 8, 8, 8, 8, 8, 8, 8, 8, 8, 8, 8, 8, 8, 8, 8, 8, 8, 8, 8, 8, 8, 8, 8, 8, 8, 8, 8, 8, 8, 8, 8, 8, 8, 8, 8, 8, 8, 8, 8, 8, 8, 8, 8, 8, 8, 8, 8, 8, 8, 8, 8, 8, 8, 8, 8, 8, 8, 8, 8, 8, 8, 8, 8, 8, 8, 8, 8, 8, 8, 8, 8, 8, 8, 8, 8, 8, 8, 8, 8, 8, 8, 8, 8, 8, 8, 8, 8, 8, 8, 8, 8, 8, 8, 8, 8, 8, 8, 8, 8, 8, 8, 8, 8, 8, 8, 8, 8, 8, 8, 8, 8] } : ByteArray)[k.1]'(k.2)).toNat ∧ (({ data := #[0, 1, 2, 2, 3, 3, 3, 3, 4, 4, 4, 4, 4, 4, 4, 4, 5, 5, 5, 5, 5, 5, 5, 5, 5, 5, 5, 5, 5, 5, 5, 5, 6, 6, 6, 6, 6, 6, 6, 6, 6, 6, 6, 6, 6, 6, 6, 6, 6, 6, 6, 6, 6, 6, 6, 6, 6, 6, 6, 6, 6, 6, 6, 6, 7, 7, 7, 7, 7, 7, 7, 7, 7, 7, 7, 7, 7, 7, 7, 7, 7, 7, 7, 7, 7, 7, 7, 7, 7, 7, 7, 7, 7, 7, 7, 7, 7, 7, 7, 7, 7, 7, 7, 7, 7, 7, 7, 7, 7, 7, 7, 7, 7, 7, 7, 7, 7, 7, 7, 7, 7, 7, 7, 7, 7, 7, 7, 7, 8, 8, 8, 8, 8, 8, 8, 8, 8, 8, 8, 8, 8, 8, 8, 8, 8, 8, 8, 8, 8, 8, 8, 8, 8, 8, 8, 8, 8, 8, 8, 8, 8, 8, 8, 8, 8, 8, 8, 8, 8, 8, 8, 8, 8, 8, 8, 8, 8, 8, 8, 8, 8, 8, 8, 8, 8, 8, 8, 8, 8, 8, 8, 8, 8, 8, 8, 8, 8, 8, 8, 8, 8, 8, 8, 8, 8, 8, 8, 8, 8, 8, 8, 8, 8, 8, 8, 8, 8, 8, 8, 8, 8, 8, 8, 8, 8, 8, 8, 8, 8, 8, 8, 8, 8, 8, 8, 8, 8, 8, 8, 8, 8, 8, 8, 8, 8, 8, 8, 8, 8, 8, 8, 8, 8, 8, 8, 8] } : ByteArray)[k.1]'(k.2)).toNat ≤ 8 ∧ 2 ^ ((({ data := #[0, 1, 2, 2, 3, 3, 3, 3, 4, 4, 4, 4, 4, 4, 4, 4, 5, 5, 5, 5, 5, 5, 5, 5, 5, 5, 5, 5, 5, 5, 5, 5, 6, 6, 6, 6, 6, 6, 6, 6, 6, 6, 6, 6, 6, 6, 6, 6, 6, 6, 6, 6, 6, 6, 6, 6, 6, 6, 6, 6, 6, 6, 6, 6, 7, 7, 7, 7, 7, 7, 7, 7, 7, 7, 7, 7, 7, 7, 7, 7, 7, 7, 7, 7, 7, 7, 7, 7, 7, 7, 7, 7, 7, 7, 7, 7, 7, 7, 7, 7, 7, 7, 7, 7, 7, 7, 7, 7, 7, 7, 7, 7, 7, 7, 7, 7, 7, 7, 7, 7, 7, 7, 7, 7, 7, 7, 7, 7, 8, 8, 8, 8, 8, 8, 8, 8, 8, 8, 8, 8, 8, 8, 8, 8, 8, 8, 8, 8, 8, 8, 8, 8, 8, 8, 8, 8, 8, 8, 8, 8, 8, 8, 8, 8, 8, 8, 8, 8, 8, 8, 8, 8, 8, 8, 8, 8, 8, 8, 8, 8, 8, 8, 8, 8, 8, 8, 8, 8, 8, 8, 8, 8, 8, 8, 8, 8, 8, 8, 8, 8, 8, 8, 8, 8, 8, 8, 8, 8, 8, 8, 8, 8, 8, 8, 8, 8, 8, 8, 8, 8, 8, 8, 8, 8, 8, 8, 8, 8, 8, 8, 8, 8, 8, 8, 8, 8, 8, 8, 8, 8, 8, 8, 8, 8, 8, 8, 8, 8, 8, 8, 8, 8, 8, 8, 8, 8] } : ByteArray)[k.1]'(k.2)).toNat - 1) ≤ k.1 ∧ k.1 < 2 ^ (({ data := #[0, 1, 2, 2, 3, 3, 3, 3, 4, 4, 4, 4, 4, 4, 4, 4, 5, 5, 5, 5, 5, 5, 5, 5, 5, 5, 5, 5, 5, 5, 5, 5, 6, 6, 6, 6, 6, 6, 6, 6, 6, 6, 6, 6, 6, 6, 6, 6, 6, 6, 6, 6, 6, 6, 6, 6, 6, 6, 6, 6, 6, 6, 6, 6, 7, 7, 7, 7, 7, 7, 7, 7, 7, 7, 7, 7, 7, 7, 7, 7, 7, 7, 7, 7, 7, 7, 7, 7, 7, 7, 7, 7, 7, 7, 7, 7, 7, 7, 7, 7, 7, 7, 7, 7, 7, 7, 7, 7, 7, 7, 7, 7, 7, 7, 7, 7, 7, 7, 7, 7, 7, 7, 7, 7, 7, 7, 7, 7, 8, 8, 8, 8, 8, 8, 8, 8, 8, 8, 8, 8, 8, 8, 8, 8, 8, 8, 8, 8, 8, 8, 8, 8, 8, 8, 8, 8, 8, 8, 8, 8, 8, 8, 8, 8, 8, 8, 8, 8, 8, 8, 8, 8, 8, 8, 8, 8, 8, 8, 8, 8, 8, 8, 8, 8, 8, 8, 8, 8, 8, 8, 8, 8, 8, 8, 8, 8, 8, 8, 8, 8, 8, 8, 8, 8, 8, 8, 8, 8, 8, 8, 8, 8, 8, 8, 8, 8, 8, 8, 8, 8, 8, 8, 8, 8, 8, 8, 8, 8, 8, 8, 8, 8, 8, 8, 8, 8, 8, 8, 8, 8, 8, 8, 8, 8, 8, 8, 8, 8, 8, 8, 8, 8, 8, 8, 8, 8] } : ByteArray)[k.1]'(k.2)).toNat := by decide +kernel
set_option maxRecDepth 100000 in
theorem tab_ok (k : Nat) (h1 : 1 ≤ k) (h2 : k < 256) (i : Nat) (hi : i = k) (h : i < ({ data := #[0, 1, 2, 2, 3, 3, 3, 3, 4, 4, 4, 4, 4, 4, 4, 4, 5, 5, 5, 5, 5, 5, 5, 5, 5, 5, 5, 5, 5, 5, 5, 5, 6, 6, 6, 6, 6, 6, 6, 6, 6, 6, 6, 6, 6, 6, 6, 6, 6, 6, 6, 6, 6, 6, 6, 6, 6, 6, 6, 6, 6, 6, 6, 6, 7, 7, 7, 7, 7, 7, 7, 7, 7, 7, 7, 7, 7, 7, 7, 7, 7, 7, 7, 7, 7, 7, 7, 7, 7, 7, 7, 7, 7, 7, 7, 7, 7, 7, 7, 7, 7, 7, 7, 7, 7, 7, 7, 7, 7, 7, 7, 7, 7, 7, 7, 7, 7, 7, 7, 7, 7, 7, 7, 7, 7, 7, 7, 7, 8, 8, 8, 8, 8, 8, 8, 8, 8, 8, 8, 8, 8, 8, 8, 8, 8, 8, 8, 8, 8, 8, 8, 8, 8, 8, 8, 8, 8, 8, 8, 8, 8, 8, 8, 8, 8, 8, 8, 8, 8, 8, 8, 8, 8, 8, 8, 8, 8, 8, 8, 8, 8, 8, 8, 8, 8, 8, 8, 8, 8, 8, 8, 8, 8, 8, 8, 8, 8, 8, 8, 8, 8, 8, 8, 8, 8, 8, 8, 8, 8, 8, 8, 8, 8, 8, 8, 8, 8, 8, 8, 8, 8, 8, 8, 8, 8, 8, 8, 8, 8, 8, 8, 8, 8, 8, 8, 8, 8, 8, 8, 8, 8, 8, 8, 8, 8, 8, 8, 8, 8, 8, 8, 8, 8, 8, 8, 8] } : ByteArray).size) : 1 ≤ (({ data := #[0, 1, 2, 2, 3, 3, 3, 3, 4, 4, 4, 4, 4, 4, 4, 4, 5, 5, 5, 5, 5, 5, 5, 5, 5, 5, 5, 5, 5, 5, 5, 5, 6, 6, 6, 6, 6, 6, 6, 6, 6, 6, 6, 6, 6, 6, 6, 6, 6, 6, 6, 6, 6, 6, 6, 6, 6, 6, 6, 6, 6, 6, 6, 6, 7, 7, 7, 7, 7, 7, 7, 7, 7, 7, 7, 7, 7, 7, 7, 7, 7, 7, 7, 7, 7, 7, 7, 7, 7, 7, 7, 7, 7, 7, 7, 7, 7, 7, 7, 7, 7, 7, 7, 7, 7, 7, 7, 7, 7, 7, 7, 7, 7, 7, 7, 7, 7, 7, 7, 7, 7, 7, 7, 7, 7, 7, 7, 7, 8, 8, 8, 8, 8, 8, 8, 8, 8, 8, 8, 8, 8, 8, 8, 8, 8, 8, 8, 8, 8, 8, 8, 8, 8, 8, 8, 8, 8, 8, 8, 8, 8, 8, 8, 8, 8, 8, 8, 8, 8, 8, 8, 8, 8, 8, 8, 8, 8, 8, 8, 8, 8, 8, 8, 8, 8, 8, 8, 8, 8, 8, 8, 8, 8, 8, 8, 8, 8, 8, 8, 8, 8, 8, 8, 8, 8, 8, 8, 8, 8, 8, 8, 8, 8, 8, 8, 8, 8, 8, 8, 8, 8, 8, 8, 8, 8, 8, 8, 8, 8, 8, 8, 8, 8, 8, 8, 8, 8, 8, 8, 8, 8, 8, 8, 8, 8, 8, 8, 8, 8, 8, 8, 8, 8, 8, 8, 8] } : ByteArray)[i]'h).toNat ∧ (({ data := #[0, 1, 2, 2, 3, 3, 3, 3, 4, 4, 4, 4, 4, 4, 4, 4, 5, 5, 5, 5, 5, 5, 5, 5, 5, 5, 5, 5, 5, 5, 5, 5, 6, 6, 6, 6, 6, 6, 6, 6, 6, 6, 6, 6, 6, 6, 6, 6, 6, 6, 6, 6, 6, 6, 6, 6, 6, 6, 6, 6, 6, 6, 6, 6, 7, 7, 7, 7, 7, 7, 7, 7, 7, 7, 7, 7, 7, 7, 7, 7, 7, 7, 7, 7, 7, 7, 7, 7, 7, 7, 7, 7, 7, 7, 7, 7, 7, 7, 7, 7, 7, 7, 7, 7, 7, 7, 7, 7, 7, 7, 7, 7, 7, 7, 7, 7, 7, 7, 7, 7, 7, 7, 7, 7, 7, 7, 7, 7, 8, 8, 8, 8, 8, 8, 8, 8, 8, 8, 8, 8, 8, 8, 8, 8, 8, 8, 8, 8, 8, 8, 8, 8, 8, 8, 8, 8, 8, 8, 8, 8, 8, 8, 8, 8, 8, 8, 8, 8, 8, 8, 8, 8, 8, 8, 8, 8, 8, 8, 8, 8, 8, 8, 8, 8, 8, 8, 8, 8, 8, 8, 8, 8, 8, 8, 8, 8, 8, 8, 8, 8, 8, 8, 8, 8, 8, 8, 8, 8, 8, 8, 8, 8, 8, 8, 8, 8, 8, 8, 8, 8, 8, 8, 8, 8, 8, 8, 8, 8, 8, 8, 8, 8, 8, 8, 8, 8, 8, 8, 8, 8, 8, 8, 8, 8, 8, 8, 8, 8, 8, 8, 8, 8, 8, 8, 8, 8] } : ByteArray)[i]'h).toNat ≤ 8 ∧ 2 ^ ((({ data := #[0, 1, 2, 2, 3, 3, 3, 3, 4, 4, 4, 4, 4, 4, 4, 4, 5, 5, 5, 5, 5, 5, 5, 5, 5, 5, 5, 5, 5, 5, 5, 5, 6, 6, 6, 6, 6, 6, 6, 6, 6, 6, 6, 6, 6, 6, 6, 6, 6, 6, 6, 6, 6, 6, 6, 6, 6, 6, 6, 6, 6, 6, 6, 6, 7, 7, 7, 7, 7, 7, 7, 7, 7, 7, 7, 7, 7, 7, 7, 7, 7, 7, 7, 7, 7, 7, 7, 7, 7, 7, 7, 7, 7, 7, 7, 7, 7, 7, 7, 7, 7, 7, 7, 7, 7, 7, 7, 7, 7, 7, 7, 7, 7, 7, 7, 7, 7, 7, 7, 7, 7, 7, 7, 7, 7, 7, 7, 7, 8, 8, 8, 8, 8, 8, 8, 8, 8, 8, 8, 8, 8, 8, 8, 8, 8, 8, 8, 8, 8, 8, 8, 8, 8, 8, 8, 8, 8, 8, 8, 8, 8, 8, 8, 8, 8, 8, 8, 8, 8, 8, 8, 8, 8, 8, 8, 8, 8, 8, 8, 8, 8, 8, 8, 8, 8, 8, 8, 8, 8, 8, 8, 8, 8, 8, 8, 8, 8, 8, 8, 8, 8, 8, 8, 8, 8, 8, 8, 8, 8, 8, 8, 8, 8, 8, 8, 8, 8, 8, 8, 8, 8, 8, 8, 8, 8, 8, 8, 8, 8, 8, 8, 8, 8, 8, 8, 8, 8, 8, 8, 8, 8, 8, 8, 8, 8, 8, 8, 8, 8, 8, 8, 8, 8, 8, 8, 8] } : ByteArray)[i]'h).toNat - 1) ≤ k ∧ k < 2 ^ (({ data := #[0, 1, 2, 2, 3, 3, 3, 3, 4, 4, 4, 4, 4, 4, 4, 4, 5, 5, 5, 5, 5, 5, 5, 5, 5, 5, 5, 5, 5, 5, 5, 5, 6, 6, 6, 6, 6, 6, 6, 6, 6, 6, 6, 6, 6, 6, 6, 6, 6, 6, 6, 6, 6, 6, 6, 6, 6, 6, 6, 6, 6, 6, 6, 6, 7, 7, 7, 7, 7, 7, 7, 7, 7, 7, 7, 7, 7, 7, 7, 7, 7, 7, 7, 7, 7, 7, 7, 7, 7, 7, 7, 7, 7, 7, 7, 7, 7, 7, 7, 7, 7, 7, 7, 7, 7, 7, 7, 7, 7, 7, 7, 7, 7, 7, 7, 7, 7, 7, 7, 7, 7, 7, 7, 7, 7, 7, 7, 7, 8, 8, 8, 8, 8, 8, 8, 8, 8, 8, 8, 8, 8, 8, 8, 8, 8, 8, 8, 8, 8, 8, 8, 8, 8, 8, 8, 8, 8, 8, 8, 8, 8, 8, 8, 8, 8, 8, 8, 8, 8, 8, 8, 8, 8, 8, 8, 8, 8, 8, 8, 8, 8, 8, 8, 8, 8, 8, 8, 8, 8, 8, 8, 8, 8, 8, 8, 8, 8, 8, 8, 8, 8, 8, 8, 8, 8, 8, 8, 8, 8, 8, 8, 8, 8, 8, 8, 8, 8, 8, 8, 8, 8, 8, 8, 8, 8, 8, 8, 8, 8, 8, 8, 8, 8, 8, 8, 8, 8, 8, 8, 8, 8, 8, 8, 8, 8, 8, 8, 8, 8, 8, 8, 8, 8, 8, 8, 8] } : ByteArray)[i]'h).toNat := by
  subst hi
  exact tab_all ⟨i, h2⟩ h1
theorem len_end {x n y T : Nat} (hn : n ≤ 56) (hy : y = x / 2 ^ n) (h : 1 ≤ T ∧ T ≤ 8 ∧ 2 ^ (T - 1) ≤ y ∧ y < 2 ^ T) : ∃ m : Nat, wrap64 ((n : Int) + wrap64 (T : Int)) = (m : Int) ∧ LenOf x m := by
  have e1 : wrap64 (T : Int) = T := by rw [wrap64]; omega
  have e2 : wrap64 ((n : Int) + (T : Int)) = ((T + n : Nat) : Int) := by rw [wrap64]; omega
  refine ⟨T + n, by rw [e1, e2], LenOf.up ?_ (by omega)⟩
  rw [← hy]
  exact ⟨h.1, by omega, h.2.2⟩
set_option maxRecDepth 100000 in
set_option maxHeartbeats 4000000 in
theorem len64_any (x : Nat) (hx1 : 1 ≤ x) (hx : x < 18446744073709551616) (w : World) :
    Calls Tryz.prog 187 #[.int .u64 x] w fun e w' => ∃ n : Nat, e = .returned (.int .i64 n) ∧ LenOf x n ∧ w = w' := by
  go_enter Tryz.func187, Tryz.ntmps187
  refine wp_seq_k ?_
  intro K0 hK0
  go_cut [0, 2] from 0 to 0 (fun s0 s2 wx => s0 = .int .u64 x ∧ s2 = .int .i64 0 ∧ w = wx)
  case first =>
    clear hK0 K0
    go_wp2_with fail
    go_meet
    exact ⟨rfl, rfl, rfl⟩
  case rest =>
  obtain ⟨rfl, rfl, rfl⟩ := hcut
  apply hK0
  clear hK0 K0
  refine wp_seq_k ?_
  intro K1 hK1
  go_cut [0, 2] from 1 to 3 (fun s0 s2 wx => ∃ n y : Nat, n ≤ 32 ∧ Hid (y = x / 2 ^ n) ∧ 1 ≤ y ∧ y < 4294967296 ∧ s0 = .int .u64 y ∧ s2 = .int .i64 n ∧ w = wx)
  case first =>
    clear hK1 K1
    by_cases hc : 4294967296 ≤ x
    · have hci : (4294967296 : Int) ≤ (x : Int) := by omega
      go_wp2_with fail
      go_meet
      exact ⟨32, x / 2 ^ 32, by omega, Lib.hid rfl, by omega, by omega, by congr 1, rfl, rfl⟩
    · have hci : ¬ (4294967296 : Int) ≤ (x : Int) := by omega
      go_wp2_with fail
      go_meet
      exact ⟨0, x, by omega, Lib.hid (by simp), hx1, by omega, rfl, rfl, rfl⟩
  case rest =>
  obtain ⟨n1, y1, hn1, hy1, h11, h12, rfl, rfl, rfl⟩ := hcut
  apply hK1
  clear hK1 K1
  refine wp_seq_k ?_
  intro K2 hK2
  go_cut [0, 2] from 4 to 6 (fun s0 s2 wx => ∃ n y : Nat, n ≤ 48 ∧ Hid (y = x / 2 ^ n) ∧ 1 ≤ y ∧ y < 65536 ∧ s0 = .int .u64 y ∧ s2 = .int .i64 n ∧ w = wx)
  case first =>
    clear hK2 K2
    by_cases hc : 65536 ≤ y1
    · have hci : (65536 : Int) ≤ (y1 : Int) := by omega
      go_wp2_with fail
      go_meet
      exact ⟨n1 + 16, y1 / 2 ^ 16, by omega, Lib.hid (by rw [hy1.out, Nat.div_div_eq_div_mul, Nat.pow_add]), by omega, by omega, by congr 1, by congr 1, rfl⟩
    · have hci : ¬ (65536 : Int) ≤ (y1 : Int) := by omega
      go_wp2_with fail
      go_meet
      exact ⟨n1, y1, by omega, hy1, h11, by omega, rfl, rfl, rfl⟩
  case rest =>
  obtain ⟨n2, y2, hn2, hy2, h21, h22, rfl, rfl, rfl⟩ := hcut
  apply hK2
  clear hK2 K2 hy1 h11 h12
  refine wp_seq_k ?_
  intro K3 hK3
  go_cut [0, 2] from 7 to 9 (fun s0 s2 wx => ∃ n y : Nat, n ≤ 56 ∧ Hid (y = x / 2 ^ n) ∧ 1 ≤ y ∧ y < 256 ∧ s0 = .int .u64 y ∧ s2 = .int .i64 n ∧ w = wx)
  case first =>
    clear hK3 K3
    by_cases hc : 256 ≤ y2
    · have hci : (256 : Int) ≤ (y2 : Int) := by omega
      go_wp2_with fail
      go_meet
      exact ⟨n2 + 8, y2 / 2 ^ 8, by omega, Lib.hid (by rw [hy2.out, Nat.div_div_eq_div_mul, Nat.pow_add]), by omega, by omega, by congr 1, by congr 1, rfl⟩
    · have hci : ¬ (256 : Int) ≤ (y2 : Int) := by omega
      go_wp2_with fail
      go_meet
      exact ⟨n2, y2, by omega, hy2, h21, by omega, rfl, rfl, rfl⟩
  case rest =>
  obtain ⟨n3, y3, hn3, hy3, h31, h32, rfl, rfl, rfl⟩ := hcut
  apply hK3
  clear hK3 K3 hy2 h21 h22
  go_wp2_with fail
  obtain ⟨m, hm, hl⟩ := len_end hn3 hy3.out (tab_ok y3 h31 h32 y3 rfl h32)
  refine bodyPost_ret (v := .int .i64 m) ?_ rfl ⟨m, rfl, hl, rfl⟩
  simp [results, Tryz.results187, go_sem]
  exact hm
end Go.Proofs.YtmgfaeineklccaaGreat
