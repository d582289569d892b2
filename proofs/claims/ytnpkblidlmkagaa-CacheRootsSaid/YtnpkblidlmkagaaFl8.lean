/- The plain law of the product of two numbers: it is finite, neat, and near. -/
import Derived.Test.YtnpkblidlmkagaaFl7
set_option linter.unusedSimpArgs false
set_option linter.unusedVariables false
namespace Go.Proofs.Ytnpkblidlmkagaa
open Fl

/-- The product of two numbers, in whole units: P, Q, R the products that are taken. -/
theorem mulF_spec {a b c d p e : Nat} {P Q R T M : Int} (fa : Fnt a) (fb : Fnt b) (fc : Fnt c) (fd : Fnt d) (hP : prodF a c = some (p, e)) (fp : Fnt p) (fe : Fnt e) (vp : iv p = rnd P) (ve : iv e = P - rnd P)
    (hQ : iv a * iv d = Q * 2 ^ U) (hR : iv b * iv c = R * 2 ^ U)
    (p1 : -M ≤ P) (p2 : P ≤ M) (q1 : -M ≤ 9007199254740990 * Q) (q2 : 9007199254740990 * Q ≤ M) (r1 : -M ≤ 9007199254740990 * R) (r2 : 9007199254740990 * R ≤ M)
    (t1 : -M ≤ 9007199254740990 * 9007199254740990 * T) (t2 : 9007199254740990 * 9007199254740990 * T ≤ M) (hM : 16384 * M ≤ ((2 ^ Bt : Nat) : Int)) :
    ∃ x y, mulF (a, b) (c, d) = some (x, y) ∧ Fnt x ∧ Fnt y ∧ iv x = rnd (iv x + iv y) ∧ Sm (iv x) ∧ Sm (iv y) ∧
      2 ^ 98 * (iv x + iv y - (P + Q + R + T)) ≤ M ∧ -M ≤ 2 ^ 98 * (iv x + iv y - (P + Q + R + T)) := by
  have hp := Nat.two_pow_pos Bt
  have hT : (1 : Int) ≤ ((2 ^ Bt : Nat) : Int) := by omega
  clear hp
  obtain ⟨TT, hTT⟩ : ∃ T : Int, T = ((2 ^ Bt : Nat) : Int) := ⟨_, rfl⟩
  have sml : ∀ n : Int, -(16 * M) ≤ n → n ≤ 16 * M → Sm n := fun n h1 h2 => sm_of_le (K := 16 * M) h1 h2 (by omega)
  rw [← hTT] at hT hM
  have hM0 : 0 ≤ M := by omega
  obtain ⟨q, h2, f2, v2⟩ := fmul_whole fa fd hQ (by rw [hTT] at hM; omega)
  obtain ⟨r, h3, f3, v3⟩ := fmul_whole fb fc hR (by rw [hTT] at hM; omega)
  have rp := rel2 P p1 p2
  rw [← vp] at rp
  have rq := relN Q q1 q2
  rw [← v2] at rq
  have rr := relN R r1 r2
  rw [← v3] at rr
  have eb : -M ≤ 9007199254740992 * iv e ∧ 9007199254740992 * iv e ≤ M := by rw [ve, ← vp]; omega
  obtain ⟨t, h4, f4, v4⟩ := fadd_spec f2 f3 (by rw [hTT] at hM; omega)
  have rt := relN (iv q + iv r) (K := 4 * M) (by omega) (by omega)
  rw [← v4] at rt
  obtain ⟨e', h5, f5, v5⟩ := fadd_spec fe f4 (by rw [hTT] at hM; omega)
  have re := relN (iv e + iv t) (K := 9 * M) (by omega) (by omega)
  rw [← v5] at re
  have pb : -(2 * M) ≤ iv p ∧ iv p ≤ 2 * M := by omega
  obtain ⟨x, y, h6, f9, f10, v9, v10⟩ := sumF_spec fp f5 (sml _ (by omega) (by omega)) (sml _ (by omega) (by omega))
  have r6 := rel2 (iv p + iv e') (K := 3 * M) (by omega) (by omega)
  rw [← v9] at r6
  refine ⟨x, y, ?_, f9, f10, ?_, sml _ (by omega) (by omega), sml _ (by omega) (by omega), ?_, ?_⟩
  · simp only [mulF, hP, h2, h3, h4, h5, h6, Option.bind_some]
  · rw [v10, v9]; congr 1; omega
  · have e : iv x + iv y - (P + Q + R + T) = (iv e' - (iv e + iv t)) + (iv t - (iv q + iv r)) + (iv q - Q) + (iv r - R) - T := by omega
    rw [e]
    clear e sml
    omega
  · have e : iv x + iv y - (P + Q + R + T) = (iv e' - (iv e + iv t)) + (iv t - (iv q + iv r)) + (iv q - Q) + (iv r - R) - T := by omega
    rw [e]
    clear e sml
    omega

/-- A float that is nought or not small has a make. -/
theorem mk_of {x lo hi : Nat} (fx : Fnt x) (h1 : 2 ^ lo ≤ (iv x).natAbs) (h2 : (iv x).natAbs < 2 ^ hi) (hl : 53 ≤ lo) : ∃ (A : Int) (k : Nat), Mk x A k ∧ lo ≤ k + 52 ∧ k + 53 ≤ hi := by
  have e := iv_parts fx
  have p1 := pe_lo fx h1
  have p2 := pe_hi fx h2
  have p3 := pm_norm fx
  refine ⟨pm x, (pe x + 1074).toNat, ⟨fx, e.1, ?_, by omega⟩, by omega, by omega⟩
  rcases p3 with p3 | p3
  · omega
  · exact .inr p3
theorem mk_zero {x : Nat} (fx : Fnt x) (h : iv x = 0) (k : Nat) : Mk x 0 k := ⟨fx, by rw [h, Int.zero_mul], .inl rfl, by decide⟩

theorem mk_prod {x y : Nat} {A B : Int} {k l : Nat} (hx : Mk x A k) (hy : Mk y B l) (h : 1074 ≤ k + l) : iv x * iv y = (A * B * 2 ^ (k + l - U)) * 2 ^ U := by
  have hU := U_eq
  rw [hx.e, hy.e, Int.mul_assoc (A * B), ← Int.pow_add, show k + l - U + U = k + l from by omega, Int.pow_add, Int.mul_assoc, Int.mul_assoc, Int.mul_left_comm (2 ^ k)]

theorem scaled_le {N : Nat} {P Q u v w : Int} (h1 : u * v = P * 2 ^ U) (h2 : u * w = Q * 2 ^ U) (h : N * w.natAbs ≤ v.natAbs) : N * Q.natAbs ≤ P.natAbs := by
  have e1 : (u * v).natAbs = P.natAbs * 2 ^ U := by rw [h1, Int.natAbs_mul, Int.natAbs_pow]; rfl
  have e2 : (u * w).natAbs = Q.natAbs * 2 ^ U := by rw [h2, Int.natAbs_mul, Int.natAbs_pow]; rfl
  rw [Int.natAbs_mul] at e1 e2
  have h3 : N * (u.natAbs * w.natAbs) ≤ u.natAbs * v.natAbs := by
    rw [Nat.mul_left_comm]; exact Nat.mul_le_mul_left _ h
  rw [e1, e2, ← Nat.mul_assoc] at h3
  exact Nat.le_of_mul_le_mul_right h3 (Nat.two_pow_pos _)

end Go.Proofs.Ytnpkblidlmkagaa
