/- The plain law of the sum of two numbers: it is finite, neat, and near. -/
import Derived.Test.YtnpkblidlmkagaaW16
set_option linter.unusedSimpArgs false
set_option linter.unusedVariables false
namespace Go.Proofs.Ytnpkblidlmkagaa
open Fl

theorem rel2 (n : Int) {K : Int} (h1 : -K ≤ n) (h2 : n ≤ K) : 9007199254740992 * (rnd n - n) ≤ K ∧ -K ≤ 9007199254740992 * (rnd n - n) := by
  have := rnd_rel n
  omega

/-- The same where the number is small: N = 9007199254740990. -/
theorem relN (n : Int) {K : Int} (h1 : -K ≤ 9007199254740990 * n) (h2 : 9007199254740990 * n ≤ K) :
    9007199254740990 * 9007199254740992 * (rnd n - n) ≤ K ∧ -K ≤ 9007199254740990 * 9007199254740992 * (rnd n - n) ∧ 9007199254740990 * rnd n ≤ 2 * K ∧ -(2 * K) ≤ 9007199254740990 * rnd n := by
  have h := rnd_rel n
  generalize rnd n = r at *
  refine ⟨?_, ?_, ?_, ?_⟩ <;> omega

theorem sm_of_le {n : Int} {K : Int} (h1 : -K ≤ n) (h2 : n ≤ K) (hK : 1024 * K ≤ ((2 ^ Bt : Nat) : Int)) : Sm n := by
  unfold Sm; omega

/-- The sum of two numbers, in whole units: every number at most M. -/
theorem addF_spec {a b c d : Nat} {M : Int} (fa : Fnt a) (fb : Fnt b) (fc : Fnt c) (fd : Fnt d) (na : rnd (iv a + iv b) = iv a) (nc : rnd (iv c + iv d) = iv c)
    (a1 : -M ≤ iv a) (a2 : iv a ≤ M) (c1 : -M ≤ iv c) (c2 : iv c ≤ M) (hM : 16384 * M ≤ ((2 ^ Bt : Nat) : Int)) :
    ∃ x y, addF (a, b) (c, d) = some (x, y) ∧ Fnt x ∧ Fnt y ∧ iv x = rnd (iv x + iv y) ∧ Sm (iv x) ∧ Sm (iv y) ∧
      2 ^ 97 * (iv x + iv y - (iv a + iv b + iv c + iv d)) ≤ M ∧ -M ≤ 2 ^ 97 * (iv x + iv y - (iv a + iv b + iv c + iv d)) := by
  have hp := Nat.two_pow_pos Bt
  have hT : (1 : Int) ≤ ((2 ^ Bt : Nat) : Int) := by omega
  clear hp
  obtain ⟨T, hTT⟩ : ∃ T : Int, T = ((2 ^ Bt : Nat) : Int) := ⟨_, rfl⟩
  have sml : ∀ n : Int, -(16 * M) ≤ n → n ≤ 16 * M → Sm n := fun n h1 h2 => sm_of_le (K := 16 * M) h1 h2 (by omega)
  rw [← hTT] at hT hM
  have hM0 : 0 ≤ M := by omega
  have rb := rnd_rel (iv a + iv b)
  rw [na] at rb
  have rd := rnd_rel (iv c + iv d)
  rw [nc] at rd
  -- the second parts are small
  have b1 : 9007199254740990 * iv b ≤ M ∧ -M ≤ 9007199254740990 * iv b := by omega
  have d1 : 9007199254740990 * iv d ≤ M ∧ -M ≤ 9007199254740990 * iv d := by omega
  clear rb rd
  obtain ⟨s, e, h1, f1, f2, v1, v2⟩ := sumF_spec fa fc (sml _ (by omega) (by omega)) (sml _ (by omega) (by omega))
  obtain ⟨t, f, h2, f3, f4, v3, v4⟩ := sumF_spec fb fd (sml _ (by omega) (by omega)) (sml _ (by omega) (by omega))
  have r1 := rel2 (iv a + iv c) (K := 2 * M) (by omega) (by omega)
  rw [← v1] at r1
  have r2 := relN (iv b + iv d) (K := 2 * M) (by omega) (by omega)
  rw [← v3] at r2
  have sb : -(4 * M) ≤ iv s ∧ iv s ≤ 4 * M := by omega
  have eb : -(2 * M) ≤ 9007199254740992 * iv e ∧ 9007199254740992 * iv e ≤ 2 * M := by omega
  have tb : -(4 * M) ≤ 9007199254740990 * iv t ∧ 9007199254740990 * iv t ≤ 4 * M := by omega
  have fb2 : -(2 * M) ≤ 9007199254740990 * 9007199254740992 * iv f ∧ 9007199254740990 * 9007199254740992 * iv f ≤ 2 * M := by omega
  obtain ⟨g, h3, f5, v5⟩ := fadd_spec f2 f3 (by rw [hTT] at hM; omega)
  have et : -(6 * M) ≤ 9007199254740990 * (iv e + iv t) ∧ 9007199254740990 * (iv e + iv t) ≤ 6 * M := by omega
  have r3 := relN (iv e + iv t) et.1 et.2
  rw [← v5] at r3
  have gb : -M ≤ iv g ∧ iv g ≤ M := by omega
  obtain ⟨nh, nl, h4, f6, f7, v6, v7⟩ := sumF_spec f1 f5 (sml _ (by omega) (by omega)) (sml _ (by omega) (by omega))
  have r4 := rel2 (iv s + iv g) (K := 5 * M) (by omega) (by omega)
  rw [← v6] at r4
  have lb : -(5 * M) ≤ 9007199254740992 * iv nl ∧ 9007199254740992 * iv nl ≤ 5 * M := by omega
  obtain ⟨k, h5, f8, v8⟩ := fadd_spec f7 f4 (by rw [hTT] at hM; omega)
  have kf : -(6 * M) ≤ 9007199254740990 * (iv nl + iv f) ∧ 9007199254740990 * (iv nl + iv f) ≤ 6 * M := by omega
  have r5 := relN (iv nl + iv f) kf.1 kf.2
  rw [← v8] at r5
  obtain ⟨x, y, h6, f9, f10, v9, v10⟩ := sumF_spec f6 f8 (sml _ (by omega) (by omega)) (sml _ (by omega) (by omega))
  have r6 := rel2 (iv nh + iv k) (K := 8 * M) (by omega) (by omega)
  rw [← v9] at r6
  refine ⟨x, y, ?_, f9, f10, ?_, sml _ (by omega) (by omega), sml _ (by omega) (by omega), ?_, ?_⟩
  · simp only [addF, h1, h2, h3, h4, h5, h6, Option.bind_some]
  · rw [v10, v9]; congr 1; omega
  · have e : iv x + iv y - (iv a + iv b + iv c + iv d) = (iv g - (iv e + iv t)) + (iv k - (iv nl + iv f)) := by omega
    rw [e]
    clear e sml
    omega
  · have e : iv x + iv y - (iv a + iv b + iv c + iv d) = (iv g - (iv e + iv t)) + (iv k - (iv nl + iv f)) := by omega
    rw [e]
    clear e sml
    omega

end Go.Proofs.Ytnpkblidlmkagaa
