/- Small laws on products and neat pairs. -/
import Derived.Test.YtnpkblidlmkagaaFl10
import Derived.Test.YtnpkblidlmkagaaW28
set_option linter.unusedSimpArgs false
set_option linter.unusedVariables false
namespace Go.Proofs.Ytnpkblidlmkagaa
open Fl

theorem tame_second {X Y : Int} (h : rnd (X + Y) = X) : 9007199254740990 * Y ≤ X.natAbs ∧ -(X.natAbs : Int) ≤ 9007199254740990 * Y := by
  have := rnd_rel (X + Y)
  rw [h] at this
  omega

theorem part_le {N : Nat} (u : Int) {v x : Int} (h : N * v.natAbs ≤ x.natAbs) : N * (u * v).natAbs ≤ (u * x).natAbs := by
  rw [Int.natAbs_mul, Int.natAbs_mul, Nat.mul_left_comm]
  exact Nat.mul_le_mul_left _ h

theorem part_le' {N : Nat} (u : Int) {v x : Int} (h : N * v.natAbs ≤ x.natAbs) : N * (v * u).natAbs ≤ (x * u).natAbs := by
  rw [Int.mul_comm v, Int.mul_comm x]; exact part_le u h

theorem prod_expand (a b c d : Int) : (a + b) * (c + d) = a * c + a * d + b * c + b * d := by
  rw [Int.add_mul, Int.mul_add, Int.mul_add]; omega

/-- The whole products of two numbers against those of their first parts. -/
theorem parts4 {c d e f : Int} (hd : 9007199254740990 * d.natAbs ≤ c.natAbs) (hf : 9007199254740990 * f.natAbs ≤ e.natAbs) :
    9007199254740990 * (c * f).natAbs ≤ (c * e).natAbs ∧ 9007199254740990 * (d * e).natAbs ≤ (c * e).natAbs ∧ 9007199254740990 * (9007199254740990 * (d * f).natAbs) ≤ (c * e).natAbs := by
  have h1 := part_le c hf
  have h2 := part_le' e hd
  have h3 := part_le d hf
  exact ⟨h1, h2, Nat.le_trans (Nat.mul_le_mul_left _ h3) h2⟩

theorem abs_lt_mul {x y : Int} {m n : Nat} (h1 : x.natAbs < 2 ^ m) (h2 : y.natAbs < 2 ^ n) : (x * y).natAbs < 2 ^ (m + n) := by
  rw [Int.natAbs_mul, Nat.pow_add]; exact Nat.mul_lt_mul'' h1 h2

theorem abs_ge_mul {x y : Int} {m n : Nat} (h1 : 2 ^ m ≤ x.natAbs) (h2 : 2 ^ n ≤ y.natAbs) : 2 ^ (m + n) ≤ (x * y).natAbs := by
  rw [Int.natAbs_mul, Nat.pow_add]; exact Nat.mul_le_mul h1 h2

theorem two_sided {x y : Int} {L : Int} (h : 9007199254740990 * x.natAbs ≤ y.natAbs) (hL : (y.natAbs : Int) ≤ L) : -L ≤ 9007199254740990 * x ∧ 9007199254740990 * x ≤ L := by omega
theorem two_sided2 {x y : Int} {L : Int} (h : 9007199254740990 * (9007199254740990 * x.natAbs) ≤ y.natAbs) (hL : (y.natAbs : Int) ≤ L) : -L ≤ (9007199254740990 * 9007199254740990) * x ∧ (9007199254740990 * 9007199254740990) * x ≤ L := by omega

theorem abs_mul_pos {x S : Int} (hS : 0 < S) : ((x * S).natAbs : Int) = (x.natAbs : Int) * S := by
  rw [Int.natAbs_mul, Int.natCast_mul]
  congr 1; omega

theorem scale_le {x y S : Int} (hS : 0 < S) (h : x ≤ y) : x * S ≤ y * S := Int.mul_le_mul_of_nonneg_right h (by omega)

end Go.Proofs.Ytnpkblidlmkagaa
