/- All rounds of the series: finite, neat, small, and what each round does. -/
import Derived.Test.YtnpkblidlmkagaaG5
set_option linter.unusedSimpArgs false
set_option linter.unusedVariables false
namespace Go.Proofs.Ytnpkblidlmkagaa
open Fl

/-- What a round does to the values: Q the square with its sign, m the divisor, T the term, W the sum. -/
structure SerRel (S Q m T W T' W' : Int) : Prop where
  t : ∃ u : Int, 79228162514264337593543950336 * (u * S - T * Q) ≤ S * S ∧ -(S * S) ≤ 79228162514264337593543950336 * (u * S - T * Q) ∧
    9903520314283042199192993792 * (m * T' - u) ≤ 2 * S ∧ -(2 * S) ≤ 9903520314283042199192993792 * (m * T' - u)
  w1 : 79228162514264337593543950336 * (W' - (W + T')) ≤ 4 * S
  w2 : -(4 * S) ≤ 79228162514264337593543950336 * (W' - (W + T'))

/-- The product is small. -/
theorem prod_small {S Q T u : Int} (hS : 0 < S) (hQ : 10 * (Q.natAbs : Int) ≤ 7 * S)
    (u1 : 79228162514264337593543950336 * (u * S - T * Q) ≤ S * S) (u2 : -(S * S) ≤ 79228162514264337593543950336 * (u * S - T * Q)) :
    79228162514264337593543950336 * (10 * (u.natAbs : Int)) ≤ 79228162514264337593543950336 * (7 * (T.natAbs : Int)) + 10 * S := by
  have hTQ : 10 * ((T * Q).natAbs : Int) ≤ 7 * (T.natAbs : Int) * S := by
    rw [Int.natAbs_mul, Int.natCast_mul]
    have := Int.mul_le_mul_of_nonneg_left hQ (show (0 : Int) ≤ (T.natAbs : Int) by omega)
    rw [Int.mul_left_comm] at this
    rw [Int.mul_assoc, Int.mul_left_comm 7]
    exact this
  refine Int.le_of_mul_le_mul_right ?_ hS
  have e1 : 79228162514264337593543950336 * (10 * (u.natAbs : Int)) * S = 792281625142643375935439503360 * ((u.natAbs : Int) * S) := by
    rw [← Int.mul_assoc, Int.mul_assoc]; rfl
  have e2 : (79228162514264337593543950336 * (7 * (T.natAbs : Int)) + 10 * S) * S = 79228162514264337593543950336 * (7 * (T.natAbs : Int) * S) + 10 * (S * S) := by
    rw [Int.add_mul, Int.mul_assoc, Int.mul_assoc 10]
  rw [e1, e2, ← abs_mul_pos hS]
  generalize u * S = a at *
  generalize T * Q = b at *
  generalize 7 * (T.natAbs : Int) * S = c at *
  generalize S * S = d at *
  omega

/-- The next term is small. -/
theorem term_small {S T u T' m : Int} (hm : 2 ≤ m) (hu : 79228162514264337593543950336 * (10 * (u.natAbs : Int)) ≤ 79228162514264337593543950336 * (7 * (T.natAbs : Int)) + 10 * S) (hS : 0 < S)
    (t1 : 9903520314283042199192993792 * (m * T' - u) ≤ 2 * S) (t2 : -(2 * S) ≤ 9903520314283042199192993792 * (m * T' - u)) :
    38685626227668133590597632 * (20 * (T'.natAbs : Int)) ≤ 38685626227668133590597632 * (7 * (T.natAbs : Int)) + S := by
  have ht : 2 * (T'.natAbs : Int) ≤ ((m * T').natAbs : Int) := by
    rw [Int.natAbs_mul, Int.natCast_mul]
    have := Int.mul_le_mul_of_nonneg_right hm (show (0 : Int) ≤ (T'.natAbs : Int) by omega)
    have e : (m.natAbs : Int) = m := by omega
    rw [e]; exact this
  generalize m * T' = a at *
  omega

theorem ser_round {sq t s : Nat × Nat} {Q T W S i : Int} (hS : S = ((2 ^ U : Nat) : Int)) (hq : Ok sq Q) (ht : Ok t T) (hs : Ok s W) (hQ : 10 * (Q.natAbs : Int) ≤ 7 * S) (hT : (T.natAbs : Int) ≤ S) (hW : (W.natAbs : Int) ≤ 3 * S)
    (i1 : 1 ≤ i) (i2 : i ≤ 30) :
    ∃ t' s' T' W', serStep sq i (t, s) = some (t', s') ∧ Ok t' T' ∧ Ok s' W' ∧ SerRel S Q (i * (i + 1)) T W T' W' ∧ 38685626227668133590597632 * (20 * (T'.natAbs : Int)) ≤ 38685626227668133590597632 * (7 * (T.natAbs : Int)) + S := by
  have hSp : 0 < S := by rw [hS]; have := Nat.two_pow_pos U; omega
  obtain ⟨s1, s2⟩ := S_big hS
  have hAB : 4 * (S * (Q.natAbs : Int)) ≤ 3 * (S * S) := by
    have := Int.mul_le_mul_of_nonneg_left hQ (show (0 : Int) ≤ S by omega)
    rw [Int.mul_left_comm, Int.mul_left_comm S 7] at this
    have h2 : 0 ≤ S * S := Int.mul_nonneg (by omega) (by omega)
    omega
  obtain ⟨c, u, h1, hc, u1, u2⟩ := mul_ok (M := S) (A := S) (B := (Q.natAbs : Int)) hS ht hq (by omega) (by omega) (by omega) (by omega) (by omega) (by omega) (by omega) (by omega) hAB (by omega) (by omega)
  have m2 : 2 ≤ i * (i + 1) := by
    have := Int.mul_le_mul i1 (show 2 ≤ i + 1 by omega) (by omega) (by omega)
    omega
  have m3 : i * (i + 1) ≤ 1099511627776 := by
    have := Int.mul_le_mul i2 (show i + 1 ≤ 31 by omega) (by omega) (by omega)
    omega
  -- the product is small
  have hu := prod_small hSp hQ u1 u2
  obtain ⟨t', T', h2, ht', t1, t2⟩ := quo_ok (M := 2 * S) hS hc (show 1 ≤ i * (i + 1) by omega) m3 (by omega) (by omega) (by omega) (by omega)
  have hsm := term_small m2 hu hSp t1 t2
  have hT' : (T'.natAbs : Int) ≤ S := by omega
  obtain ⟨s', W', h3, hs', w1, w2⟩ := add_ok (M := 4 * S) hS hs ht' (by omega) (by omega) (by omega) (by omega) (by omega)
  refine ⟨t', s', T', W', ?_, ht', hs', ⟨⟨u, u1, u2, t1, t2⟩, w1, w2⟩, hsm⟩
  simp only [serStep, h1, h2, h3, Option.bind_some]

end Go.Proofs.Ytnpkblidlmkagaa
