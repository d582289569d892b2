/- The product of two numbers where the smaller products need not be whole. -/
import Derived.Test.YtnpkblidlmkagaaFl9
set_option linter.unusedSimpArgs false
set_option linter.unusedVariables false
namespace Go.Proofs.Ytnpkblidlmkagaa
open Fl

theorem near_div {z p S : Int} (hS : 0 < S) (h1 : 9007199254740992 * (z * S - p) ≤ p.natAbs + 4503599627370496 * S) (h2 : 9007199254740992 * (p - z * S) ≤ p.natAbs + 4503599627370496 * S) :
    ∃ Q : Int, Q * S ≤ p ∧ p < Q * S + S ∧ 9007199254740992 * (z - Q) ≤ Q.natAbs + 36028797018963968 ∧ 9007199254740992 * (Q - z) ≤ Q.natAbs + 36028797018963968 := by
  have hd := Int.mul_ediv_add_emod p S
  have hr0 := Int.emod_nonneg p (show S ≠ 0 by omega)
  have hr1 := Int.emod_lt_of_pos p hS
  rw [Int.mul_comm] at hd
  generalize p / S = Q at *
  generalize p % S = r at *
  have e1 : (z - Q) * S = z * S - Q * S := Int.sub_mul _ _ _
  have e3 : (Q - z) * S = Q * S - z * S := Int.sub_mul _ _ _
  have e2 : (Q.natAbs : Int) * S = (Q * S).natAbs := by
    rw [Int.natAbs_mul, Int.natCast_mul]
    congr 1
    omega
  have hp : (p.natAbs : Int) ≤ (Q.natAbs : Int) * S + S := by rw [e2]; omega
  refine ⟨Q, by omega, by omega, ?_, ?_⟩
  · refine Int.le_of_mul_le_mul_right ?_ hS
    rw [Int.mul_assoc, Int.add_mul, e1]
    omega
  · refine Int.le_of_mul_le_mul_right ?_ hS
    rw [Int.mul_assoc, Int.add_mul, e3]
    omega

theorem fmul_near {x y : Nat} (hx : Fnt x) (hy : Fnt y) (hb : (iv x * iv y).natAbs < 2 ^ (Bt + U)) :
    ∃ (z : Nat) (Q : Int), fmul x y = some z ∧ Fnt z ∧ Q * ((2 ^ U : Nat) : Int) ≤ iv x * iv y ∧ iv x * iv y < Q * ((2 ^ U : Nat) : Int) + ((2 ^ U : Nat) : Int) ∧
      9007199254740992 * (iv z - Q) ≤ Q.natAbs + 36028797018963968 ∧ 9007199254740992 * (Q - iv z) ≤ Q.natAbs + 36028797018963968 := by
  obtain ⟨z, h1, h2, h3, h4⟩ := fmul_rel hx hy hb
  have e : (2 : Int) ^ U = ((2 ^ U : Nat) : Int) := (Int.natCast_pow _ _).symm
  have e53 : (2 : Int) ^ 53 = 9007199254740992 := by decide
  have e52 : (2 : Int) ^ 52 = 4503599627370496 := by decide
  rw [e, e53, e52] at h3 h4
  obtain ⟨Q, g⟩ := near_div (by have := Nat.two_pow_pos U; omega) h3 h4
  exact ⟨z, Q, h1, h2, g⟩

theorem floor_le {Q p S M N : Int} (hS : 0 < S) (hN : 0 < N) (h1 : Q * S ≤ p) (h2 : p < Q * S + S) (a : -(M * S) ≤ N * p) (b : N * p ≤ M * S) : N * Q ≤ M ∧ -(M + N) ≤ N * Q := by
  constructor
  · refine Int.le_of_mul_le_mul_right ?_ hS
    rw [Int.mul_assoc]
    exact Int.le_trans (Int.mul_le_mul_of_nonneg_left h1 (by omega)) b
  · refine Int.le_of_mul_le_mul_right ?_ hS
    rw [Int.neg_mul, Int.add_mul, Int.mul_assoc]
    have h3 := Int.mul_le_mul_of_nonneg_left (show p ≤ Q * S + S by omega) (show 0 ≤ N by omega)
    rw [Int.mul_add] at h3
    omega

/-- The product of two numbers, in whole units; P the whole product of the first parts. -/
theorem mulF_gen {a b c d p e : Nat} {P S M : Int} (hS : S = ((2 ^ U : Nat) : Int)) (fa : Fnt a) (fb : Fnt b) (fc : Fnt c) (fd : Fnt d) (hP : prodF a c = some (p, e)) (fp : Fnt p) (fe : Fnt e) (vp : iv p = rnd P) (ve : iv e = P - rnd P)
    (hPS : iv a * iv c = P * S) (p1 : -M ≤ P) (p2 : P ≤ M)
    (q1 : -(M * S) ≤ 9007199254740990 * (iv a * iv d)) (q2 : 9007199254740990 * (iv a * iv d) ≤ M * S) (r1 : -(M * S) ≤ 9007199254740990 * (iv b * iv c)) (r2 : 9007199254740990 * (iv b * iv c) ≤ M * S)
    (t1 : -(M * S) ≤ (9007199254740990 * 9007199254740990) * (iv b * iv d)) (t2 : (9007199254740990 * 9007199254740990) * (iv b * iv d) ≤ M * S)
    (hbq : (iv a * iv d).natAbs < 2 ^ (Bt + U)) (hbr : (iv b * iv c).natAbs < 2 ^ (Bt + U))
    (hM1 : 1298074214633706907132624082305024 ≤ M) (hM : 16384 * M ≤ ((2 ^ Bt : Nat) : Int)) :
    ∃ (x y : Nat) (N : Int), mulF (a, b) (c, d) = some (x, y) ∧ Fnt x ∧ Fnt y ∧ iv x = rnd (iv x + iv y) ∧ Sm (iv x) ∧ Sm (iv y) ∧
      N * S ≤ (iv a + iv b) * (iv c + iv d) ∧ (iv a + iv b) * (iv c + iv d) < N * S + 3 * S ∧
      2 ^ 97 * (iv x + iv y - N) ≤ M ∧ -M ≤ 2 ^ 97 * (iv x + iv y - N) := by
  obtain ⟨TT, hTT⟩ : ∃ T : Int, T = ((2 ^ Bt : Nat) : Int) := ⟨_, rfl⟩
  have sml : ∀ n : Int, -(16 * M) ≤ n → n ≤ 16 * M → Sm n := fun n h1 h2 => sm_of_le (K := 16 * M) h1 h2 (by omega)
  have hSp : 0 < S := by rw [hS]; have := Nat.two_pow_pos U; omega
  obtain ⟨q, Q, h2, f2, Q1, Q2, v2, v2'⟩ := fmul_near fa fd hbq
  obtain ⟨r, R, h3, f3, R1, R2, v3, v3'⟩ := fmul_near fb fc hbr
  rw [← hS] at Q1 Q2 R1 R2
  have T1 : (iv b * iv d) / S * S ≤ iv b * iv d := Int.ediv_mul_le _ (by omega)
  have T2 : iv b * iv d < (iv b * iv d) / S * S + S := by have := Int.lt_ediv_add_one_mul_self (iv b * iv d) hSp; rw [Int.add_mul, Int.one_mul] at this; exact this
  generalize (iv b * iv d) / S = T at T1 T2
  have bq := floor_le hSp (by decide) Q1 Q2 q1 q2
  have br := floor_le hSp (by decide) R1 R2 r1 r2
  have bt := floor_le hSp (by decide) T1 T2 t1 t2
  have ex : (iv a + iv b) * (iv c + iv d) = P * S + iv a * iv d + (iv b * iv c + iv b * iv d) := by
    rw [Int.add_mul, Int.mul_add, Int.mul_add, hPS]
  have eN : (P + Q + R + T) * S = P * S + Q * S + R * S + T * S := by simp only [Int.add_mul]
  have L1 : (P + Q + R + T) * S ≤ (iv a + iv b) * (iv c + iv d) := by rw [ex, eN]; omega
  have L2 : (iv a + iv b) * (iv c + iv d) < (P + Q + R + T) * S + 3 * S := by rw [ex, eN]; omega
  clear ex eN Q1 Q2 R1 R2 T1 T2 q1 q2 r1 r2 t1 t2 hPS hbq hbr
  have rp := rel2 P p1 p2
  rw [← vp] at rp
  have rq : 9007199254740990 * 9007199254740992 * (iv q - Q) ≤ 2 * M ∧ -(2 * M) ≤ 9007199254740990 * 9007199254740992 * (iv q - Q) ∧ 9007199254740990 * iv q ≤ 2 * M ∧ -(2 * M) ≤ 9007199254740990 * iv q := by
    refine ⟨?_, ?_, ?_, ?_⟩ <;> omega
  have rr : 9007199254740990 * 9007199254740992 * (iv r - R) ≤ 2 * M ∧ -(2 * M) ≤ 9007199254740990 * 9007199254740992 * (iv r - R) ∧ 9007199254740990 * iv r ≤ 2 * M ∧ -(2 * M) ≤ 9007199254740990 * iv r := by
    refine ⟨?_, ?_, ?_, ?_⟩ <;> omega
  clear v2 v2' v3 v3' bq br
  have eb : -M ≤ 9007199254740992 * iv e ∧ 9007199254740992 * iv e ≤ M := by rw [ve, ← vp]; omega
  obtain ⟨t, h4, f4, v4⟩ := fadd_spec f2 f3 (by omega)
  have rt := relN (iv q + iv r) (K := 4 * M) (by omega) (by omega)
  rw [← v4] at rt
  obtain ⟨e', h5, f5, v5⟩ := fadd_spec fe f4 (by omega)
  have re := relN (iv e + iv t) (K := 9 * M) (by omega) (by omega)
  rw [← v5] at re
  have pb : -(2 * M) ≤ iv p ∧ iv p ≤ 2 * M := by omega
  obtain ⟨x, y, h6, f9, f10, v9, v10⟩ := sumF_spec fp f5 (sml _ (by omega) (by omega)) (sml _ (by omega) (by omega))
  have r6 := rel2 (iv p + iv e') (K := 3 * M) (by omega) (by omega)
  rw [← v9] at r6
  refine ⟨x, y, P + Q + R + T, ?_, f9, f10, ?_, sml _ (by omega) (by omega), sml _ (by omega) (by omega), L1, L2, ?_, ?_⟩
  · simp only [mulF, hP, h2, h3, h4, h5, h6, Option.bind_some]
  · rw [v10, v9]; congr 1; omega
  · have e : iv x + iv y - (P + Q + R + T) = (iv e' - (iv e + iv t)) + (iv t - (iv q + iv r)) + (iv q - Q) + (iv r - R) - T := by omega
    rw [e]
    clear e sml L1 L2
    omega
  · have e : iv x + iv y - (P + Q + R + T) = (iv e' - (iv e + iv t)) + (iv t - (iv q + iv r)) + (iv q - Q) + (iv r - R) - T := by omega
    rw [e]
    clear e sml L1 L2
    omega

end Go.Proofs.Ytnpkblidlmkagaa
