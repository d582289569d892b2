/- near: finite, neat, small, and what it does. -/
import Derived.Test.YtnpkblidlmkagaaG7
set_option linter.unusedSimpArgs false
set_option linter.unusedVariables false
namespace Go.Proofs.Ytnpkblidlmkagaa
open Fl

/-- The value of the quarter. -/
@[irreducible] def piV : Int := iv 4605249457297304856 + iv 4359948597267291143

theorem ok_pi : Ok quarterP piV := ⟨fnt_q1, fnt_q2, by unfold piV; exact neat_q, by unfold piV; rfl⟩

theorem pi_plain {a b S : Int} (hSp : 0 < S) (h1 : 9007199254740992 * a = 7074237752028440 * S) (h2 : 162259276829213363391578010288128 * b = 4967757600021511 * S) : 10000 * (a + b) ≤ 7854 * S ∧ 7853 * S ≤ 10000 * (a + b) := by
  have a1 := Int.le_of_eq h1
  have a2 := Int.le_of_eq h1.symm
  have b1 := Int.le_of_eq h2
  have b2 := Int.le_of_eq h2.symm
  clear h1 h2
  constructor
  · clear a2 b2
    omega
  · clear a1 b1
    omega

theorem pi_bd {S : Int} (hS : S = ((2 ^ U : Nat) : Int)) : 10000 * piV ≤ 7854 * S ∧ 7853 * S ≤ 10000 * piV := by
  have h := pi_plain (S := S) (by rw [hS]; have := Nat.two_pow_pos U; omega) (iv_q1 hS) (iv_q2 hS)
  unfold piV
  exact h

/-- The series at x: the square P, the terms T, the sums W. -/
structure SerVal (S X f : Int) (R : Nat) (v : Int) : Prop where
  out : ∃ (P : Int) (T W : Nat → Int), 79228162514264337593543950336 * (P * S - X * X) ≤ S * S ∧ -(S * S) ≤ 79228162514264337593543950336 * (P * S - X * X) ∧ SerAll S (-P) f R T W ∧ W R = v

theorem ser_ok {x : Nat × Nat} {X S f : Int} {R : Nat} (hS : S = ((2 ^ U : Nat) : Int)) (hx : Ok x X) (hX : 100 * (X.natAbs : Int) ≤ 79 * S) (hf : (f = 0 ∧ R = 15) ∨ (f = 1 ∧ R = 14)) :
    ∃ c v, serO x f R = some c ∧ Ok c v ∧ SerVal S X f R v ∧ (v.natAbs : Int) ≤ 3 * S := by
  have hSp : 0 < S := by rw [hS]; have := Nat.two_pow_pos U; omega
  obtain ⟨s1, s2⟩ := S_big hS
  have hXX : 10000 * ((X.natAbs : Int) * (X.natAbs : Int)) ≤ 6241 * (S * S) := by
    have := Int.mul_le_mul hX hX (by omega) (by omega)
    rw [mul4 100 _ 100 _, mul4 79 S 79 S] at this
    exact this
  obtain ⟨p, P, h1, hp, p1, p2⟩ := mul_ok (M := S) (A := (X.natAbs : Int)) (B := (X.natAbs : Int)) hS hx hx (by omega) (by omega) (by omega) (by omega) (by omega) (by omega) (by omega) (by omega) (by
    have h2 : 0 ≤ S * S := Int.mul_nonneg (by omega) (by omega)
    omega) (by omega) (by omega)
  have hP : 10 * ((-P).natAbs : Int) ≤ 7 * S := by
    have hXa : ((X * X).natAbs : Int) = (X.natAbs : Int) * (X.natAbs : Int) := by rw [Int.natAbs_mul, Int.natCast_mul]
    have h2 : 0 ≤ S * S := Int.mul_nonneg (by omega) (by omega)
    have h3 : 10 * (((P * S).natAbs : Nat) : Int) ≤ 7 * (S * S) := by
      rw [← hXa] at hXX
      clear hXa hX s1 s2
      generalize P * S = a at *
      generalize X * X = b at *
      generalize S * S = c at *
      omega
    rw [abs_mul_pos hSp] at h3
    rw [Int.natAbs_neg]
    refine Int.le_of_mul_le_mul_right ?_ hSp
    rw [Int.mul_assoc, Int.mul_assoc]
    exact h3
  obtain ⟨t, T, W, g1, g2, g3, g4, g5, g6⟩ := ser_to (f := f) hS hp.neg hP (by omega) R (by omega)
  refine ⟨t.2, W R, ?_, g3, ⟨P, T, W, p1, p2, g4, rfl⟩, ?_⟩
  · simp only [serO, h1, g1, Option.bind_some]
  · have hRS : (R : Int) * S ≤ 15 * S := Int.mul_le_mul_of_nonneg_right (by omega) (by omega)
    clear g1 g2 g3 g4 hp hx h1
    omega

/-- What near does. -/
structure NearVal (S n r c s : Int) : Prop where
  out : ∃ X W : Int, 100 * (X.natAbs : Int) ≤ 79 * S ∧ 2475880078570760549798248448 * (n * X - piV * r) ≤ r * S ∧ -(r * S) ≤ 2475880078570760549798248448 * (n * X - piV * r) ∧
    SerVal S X 0 15 c ∧ SerVal S X 1 14 W ∧ 79228162514264337593543950336 * (s * S - W * X) ≤ 4 * S * S ∧ -(4 * S * S) ≤ 79228162514264337593543950336 * (s * S - W * X)

theorem ok_whole {m S : Int} (h0 : 0 ≤ m) (h1 : m ≤ 9007199254740992) (hS : S = ((2 ^ U : Nat) : Int)) : Ok (wholeF m, 0) (m * S) := by
  obtain ⟨f, v⟩ := whole_spec m h0 h1 hS
  refine ⟨f, fnt_zero, ?_, ?_⟩
  · rw [← v]; exact (rep_iv f).rnd_eq
  · show iv (wholeF m) + iv 0 = m * S
    rw [v, iv_zero]; omega

theorem near_ok {r n S : Int} (hS : S = ((2 ^ U : Nat) : Int)) (r1 : 1 ≤ r) (rn : r ≤ n) (n2 : n ≤ 1099511627776) :
    ∃ c s vc vs, nearF r n = some (c, if r = n then c else s) ∧ Ok c vc ∧ Ok s vs ∧ NearVal S n r vc vs ∧ (vc.natAbs : Int) ≤ 3 * S ∧ (vs.natAbs : Int) ≤ 3 * S := by
  have hSp : 0 < S := by rw [hS]; have := Nat.two_pow_pos U; omega
  obtain ⟨s1, s2⟩ := S_big hS
  obtain ⟨pi1, pi2⟩ := pi_bd hS
  have rS : S ≤ r * S := by have := scale_le hSp r1; omega
  have rS2 : r * S ≤ 1099511627776 * S := scale_le hSp (by omega)
  have piS : 10000 * (piV * (r * S)) ≤ 7854 * (S * (r * S)) := by
    have := Int.mul_le_mul_of_nonneg_right pi1 (show 0 ≤ r * S by omega)
    rw [Int.mul_assoc, Int.mul_assoc] at this
    exact this
  obtain ⟨m, X0, h1, hm, a1, a2⟩ := mul_ok (M := 2 * (r * S)) (A := piV) (B := r * S) hS ok_pi (ok_whole (m := r) (by omega) (by omega) hS) (by omega) (by omega) (by omega) (by omega) (by omega) (by omega) (by omega) (by omega) (by
    have e : 2 * (r * S) * S = 2 * (S * (r * S)) := by rw [Int.mul_assoc, Int.mul_comm (r * S)]
    have h2 : 0 ≤ S * (r * S) := Int.mul_nonneg (by omega) (by omega)
    rw [e]; omega) (by omega) (by omega)
  replace a1 : 79228162514264337593543950336 * (X0 - piV * r) ≤ 2 * (r * S) := by
    refine Int.le_of_mul_le_mul_right ?_ hSp
    rw [Int.mul_assoc, Int.sub_mul, Int.mul_assoc piV]
    exact a1
  replace a2 : -(2 * (r * S)) ≤ 79228162514264337593543950336 * (X0 - piV * r) := by
    refine Int.le_of_mul_le_mul_right ?_ hSp
    rw [Int.mul_assoc 79228162514264337593543950336, Int.sub_mul, Int.mul_assoc piV, Int.neg_mul]
    exact a2
  have pr1 : 10000 * (piV * r) ≤ 7854 * (r * S) ∧ 0 ≤ piV * r := by
    have := Int.mul_le_mul_of_nonneg_right pi1 (show 0 ≤ r by omega)
    rw [Int.mul_assoc, Int.mul_assoc, Int.mul_comm S] at this
    exact ⟨this, Int.mul_nonneg (by omega) (by omega)⟩
  obtain ⟨x, X, h2, hx, b1, b2⟩ := quo_ok (M := 2 * (r * S)) (m := n) hS hm (by omega) n2 (by omega) (by omega) (by omega) (by omega)
  have x1 : 2475880078570760549798248448 * (n * X - piV * r) ≤ r * S := by omega
  have x2 : -(r * S) ≤ 2475880078570760549798248448 * (n * X - piV * r) := by omega
  have nS : r * S ≤ n * S := scale_le hSp rn
  have hX : 100 * (X.natAbs : Int) ≤ 79 * S := by
    have h3 : 100 * ((n * X).natAbs : Int) ≤ 79 * (n * S) := by
      clear a1 a2 b1 b2 s1 s2 rS2 piS pi1 pi2
      generalize n * X = a at *
      generalize piV * r = b at *
      omega
    have e : ((n * X).natAbs : Int) = (X.natAbs : Int) * n := by rw [Int.mul_comm]; exact abs_mul_pos (by omega)
    rw [e, Int.mul_comm n, ← Int.mul_assoc, ← Int.mul_assoc] at h3
    exact Int.le_of_mul_le_mul_right h3 (by omega)
  obtain ⟨c, vc, h3, hc, k1, k2⟩ := ser_ok (f := 0) (R := 15) hS hx hX (.inl ⟨rfl, rfl⟩)
  obtain ⟨s0, W, h4, hs0, l1, l2⟩ := ser_ok (f := 1) (R := 14) hS hx hX (.inr ⟨rfl, rfl⟩)
  have hSX : 100 * (3 * S * (X.natAbs : Int)) ≤ 237 * (S * S) := by
    have := Int.mul_le_mul_of_nonneg_left hX (show 0 ≤ 3 * S by omega)
    have e1 : 3 * S * (100 * (X.natAbs : Int)) = 100 * (3 * S * (X.natAbs : Int)) := by rw [Int.mul_left_comm]
    have e2 : 3 * S * (79 * S) = 237 * (S * S) := by rw [mul4 3 S 79 S]; rfl
    rw [e1, e2] at this
    exact this
  have hSS : 0 ≤ S * S := Int.mul_nonneg (by omega) (by omega)
  obtain ⟨s, vs, h5, hs, q1, q2⟩ := mul_ok (M := 4 * S) (A := 3 * S) (B := (X.natAbs : Int)) hS hs0 hx (by omega) (by omega) (by omega) (by omega) (by omega) (by omega) (by omega) (by omega) (by
    rw [Int.mul_assoc 4]; omega) (by omega) (by omega)
  refine ⟨c, s, vc, vs, ?_, hc, hs, ⟨X, W, hX, x1, x2, k1, l1, q1, q2⟩, k2, ?_⟩
  · unfold nearF
    rw [if_neg (by omega)]
    simp only [h1, h2, h3, h4, h5, Option.bind_some]
  · have hWX : ((W * X).natAbs : Int) ≤ 3 * S * (X.natAbs : Int) := by
      rw [Int.natAbs_mul, Int.natCast_mul]
      exact Int.mul_le_mul_of_nonneg_right l2 (by omega)
    refine Int.le_of_mul_le_mul_right ?_ hSp
    rw [← abs_mul_pos hSp, Int.mul_assoc 3]
    rw [Int.mul_assoc 4] at q1 q2
    clear a1 a2 b1 b2 x1 x2 pr1 piS k1 l1 h1 h2 h3 h4 h5
    generalize vs * S = a at *
    generalize W * X = b at *
    generalize 3 * S * (X.natAbs : Int) = d at *
    generalize S * S = e at *
    omega

end Go.Proofs.Ytnpkblidlmkagaa
