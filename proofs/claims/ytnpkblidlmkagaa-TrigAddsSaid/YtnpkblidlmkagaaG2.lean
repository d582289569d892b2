/- Products of two numbers: near up to an absolute error. -/
import Derived.Test.YtnpkblidlmkagaaG1
set_option linter.unusedSimpArgs false
set_option linter.unusedVariables false
namespace Go.Proofs.Ytnpkblidlmkagaa
open Fl

theorem mulF_abs {a b c d : Nat} {M S : Int} (hS : S = ((2 ^ U : Nat) : Int)) (fa : Fnt a) (fb : Fnt b) (fc : Fnt c) (fd : Fnt d) (na : rnd (iv a + iv b) = iv a) (nc : rnd (iv c + iv d) = iv c)
    (lx : (iv a).natAbs < 2 ^ (U + 61)) (ly : (iv c).natAbs < 2 ^ (U + 61)) (hM : ((iv a * iv c).natAbs : Int) ≤ M * S) (hM1 : 1725436586697640946858688965569256363112777243042596638790631055949824 ≤ M) (hM2 : 16384 * M ≤ ((2 ^ Bt : Nat) : Int)) :
    ∃ x y, mulF (a, b) (c, d) = some (x, y) ∧ Fnt x ∧ Fnt y ∧ iv x = rnd (iv x + iv y) ∧ Sm (iv x) ∧ Sm (iv y) ∧
      79228162514264337593543950336 * ((iv x + iv y) * S - (iv a + iv b) * (iv c + iv d)) ≤ M * S ∧ -(M * S) ≤ 79228162514264337593543950336 * ((iv x + iv y) * S - (iv a + iv b) * (iv c + iv d)) := by
  have hBt := Bt_eq
  have hU := U_eq
  have hSp : 0 < S := by rw [hS]; have := Nat.two_pow_pos U; omega
  have eS : (2 : Int) ^ U = S := by rw [hS]; exact (Int.natCast_pow _ _).symm
  have tb : 9007199254740990 * (iv b).natAbs ≤ (iv a).natAbs := by have := tame_second na; omega
  have td : 9007199254740990 * (iv d).natAbs ≤ (iv c).natAbs := by have := tame_second nc; omega
  obtain ⟨p1, p2, p3⟩ := parts4 (c := iv a) (d := iv b) (e := iv c) (f := iv d) tb td
  have ex := prod_expand (iv a) (iv b) (iv c) (iv d)
  have e114 : (2 : Nat) ^ 114 = 20769187434139310514121985316880384 := by decide
  have MS : 1725436586697640946858688965569256363112777243042596638790631055949824 * S ≤ M * S := scale_le hSp hM1
  by_cases ht : (iv a * iv c).natAbs < 2 ^ (U + 114)
  · -- tiny
    have hK : ((iv a * iv c).natAbs : Int) ≤ 20769187434139310514121985316880384 * S := by
      rw [Nat.pow_add, e114] at ht
      rw [hS]
      omega
    obtain ⟨x, y, h1, fx, fy, vx, sx, sy, k1, k2⟩ := mulF_tiny hS fa fb fc fd na nc lx ly hK (by omega) (by omega)
    have s1 := scale_le hSp k1
    have s2 := scale_le hSp k2
    rw [Int.neg_mul] at s1
    refine ⟨x, y, h1, fx, fy, vx, sx, sy, ?_, ?_⟩
    · rw [ex]
      generalize (iv x + iv y) * S = w at *
      generalize iv a * iv c = q0 at *
      generalize iv a * iv d = q1 at *
      generalize iv b * iv c = q2 at *
      generalize iv b * iv d = q3 at *
      generalize M * S = m at *
      clear hS eS ht hM
      omega
    · rw [ex]
      generalize (iv x + iv y) * S = w at *
      generalize iv a * iv c = q0 at *
      generalize iv a * iv d = q1 at *
      generalize iv b * iv c = q2 at *
      generalize iv b * iv d = q3 at *
      generalize M * S = m at *
      clear hS eS ht hM
      omega
  · -- both are whole
    have big : ∀ {u v : Int}, u.natAbs < 2 ^ (U + 61) → 2 ^ (U + 114) ≤ (v * u).natAbs → 2 ^ 53 ≤ v.natAbs := by
      intro u v hu hv
      apply Decidable.byContradiction
      intro hc
      have h9 := abs_lt_mul (x := v) (y := u) (Nat.lt_of_not_le hc) hu
      rw [show 53 + (U + 61) = U + 114 by omega] at h9
      omega
    obtain ⟨A, k, ma, ka1, ka2⟩ := mk_of fa (big ly (Nat.le_of_not_lt ht)) lx (by omega)
    obtain ⟨C, l, mc, kc1, kc2⟩ := mk_of fc (big lx (by rw [Int.mul_comm]; exact Nat.le_of_not_lt ht)) ly (by omega)
    have hkl : U ≤ k + l := by
      apply Decidable.byContradiction
      intro hc
      have h9 : (iv a).natAbs < 2 ^ (53 + k) := by rw [ma.abs, Nat.pow_add]; exact Nat.mul_lt_mul_of_pos_right ma.lt (Nat.two_pow_pos _)
      have h10 : (iv c).natAbs < 2 ^ (53 + l) := by rw [mc.abs, Nat.pow_add]; exact Nat.mul_lt_mul_of_pos_right mc.lt (Nat.two_pow_pos _)
      exact ht (Nat.lt_of_lt_of_le (abs_lt_mul h9 h10) (pow_mono (by omega)))
    have hP := mk_prod ma mc (by omega)
    obtain ⟨p, e, hpr, _, fp, fe, vp, ve⟩ := prodF_spec (j := k + l - U) ma mc (by omega) (by omega) (by omega) (by omega)
    obtain ⟨P, eP⟩ : ∃ P, P = A * C * 2 ^ (k + l - U) := ⟨_, rfl⟩
    rw [← eP, eS] at hP
    rw [← rnd_scale, ← eP] at vp
    rw [Int.sub_mul, ← rnd_scale, ← eP] at ve
    clear eP
    have pM : (P.natAbs : Int) ≤ M := by
      refine Int.le_of_mul_le_mul_right ?_ hSp
      rw [← abs_mul_pos hSp, ← hP]
      exact hM
    obtain ⟨q1, q2⟩ := two_sided p1 hM
    obtain ⟨q3, q4⟩ := two_sided p2 hM
    obtain ⟨q5, q6⟩ := two_sided2 p3 hM
    have bigM : M * S < ((2 ^ (Bt + U) : Nat) : Int) := by
      rw [Nat.pow_add, Int.natCast_mul, ← hS]
      exact Int.mul_lt_mul_of_pos_right (by omega) hSp
    obtain ⟨x, y, Nn, hmul, fx, fy, vx, sx, sy, L1, L2, e1, e2⟩ := mulF_gen hS fa fb fc fd hpr fp fe vp ve hP (M := M) (by omega) (by omega) q1 q2 q3 q4 q5 q6 (by clear q1 q2 q3 q4 q5 q6 hM2; omega) (by clear q1 q2 q3 q4 q5 q6 hM2; omega) (by omega) hM2
    have e97 : (2 : Int) ^ 97 = 158456325028528675187087900672 := by decide
    rw [e97] at e1 e2
    have s1 := scale_le hSp e1
    have s2 := scale_le hSp e2
    rw [Int.mul_assoc, Int.sub_mul] at s1
    rw [Int.mul_assoc, Int.sub_mul, Int.neg_mul] at s2
    refine ⟨x, y, hmul, fx, fy, vx, sx, sy, ?_, ?_⟩
    · clear ex p1 p2 p3 q1 q2 q3 q4 q5 q6 hS eS ht hM bigM hP hM2 e1 e2
      generalize (iv x + iv y) * S = w at *
      generalize (iv a + iv b) * (iv c + iv d) = q at *
      generalize M * S = m at *
      generalize Nn * S = n at *
      omega
    · clear ex p1 p2 p3 q1 q2 q3 q4 q5 q6 hS eS ht hM bigM hP hM2 e1 e2
      generalize (iv x + iv y) * S = w at *
      generalize (iv a + iv b) * (iv c + iv d) = q at *
      generalize M * S = m at *
      generalize Nn * S = n at *
      omega

end Go.Proofs.Ytnpkblidlmkagaa
