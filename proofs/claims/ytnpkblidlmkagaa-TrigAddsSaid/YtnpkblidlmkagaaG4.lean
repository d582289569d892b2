/- Floats of whole numbers; a quarter of half a turn. -/
import Derived.Test.YtnpkblidlmkagaaG3
import Derived.Test.YtnpkblidlmkagaaV4
set_option linter.unusedSimpArgs false
set_option linter.unusedVariables false
namespace Go.Proofs.Ytnpkblidlmkagaa
open Fl

theorem whole_spec (m : Int) (h0 : 0 ≤ m) (h1 : m ≤ 9007199254740992) {S : Int} (hS : S = ((2 ^ U : Nat) : Int)) : Fnt (wholeF m) ∧ iv (wholeF m) = m * S := by
  have hU := U_eq
  have hBt := Bt_eq
  have e : wholeF m = D.nearest (decide (m < 0)) m.natAbs 0 := rfl
  have hneg : decide (m < 0) = false := decide_eq_false (by omega)
  rw [hneg] at e
  have hlt : m.natAbs * 2 ^ U < 2 ^ (Bt + 0) := by
    have e54 : (2 : Nat) ^ 54 = 18014398509481984 := by decide
    have h9 : m.natAbs * 2 ^ U < 2 ^ 54 * 2 ^ U := Nat.mul_lt_mul_of_pos_right (by omega) (Nat.two_pow_pos U)
    rw [← Nat.pow_add] at h9
    exact Nat.lt_of_lt_of_le h9 (pow_mono (by omega))
  obtain ⟨f, v⟩ := nearest_spec false m.natAbs 0 0 (m.natAbs * 2 ^ U) (by omega) (by rw [show ((0 : Int) + 1074 + ((0 : Nat) : Int)).toNat = U by omega]) hlt
  rw [← e] at f v
  refine ⟨f, ?_⟩
  rw [v, rns_zero]
  have hr : rnd (m * 2 ^ U) = m * 2 ^ U := by rw [rnd_scale, (rep_small (n := m) (by have : (2 : Int) ^ 53 = 9007199254740992 := by decide
                                                                                     omega) (by have : (2 : Int) ^ 53 = 9007199254740992 := by decide
                                                                                                omega)).rnd_eq]
  have hp := pow_pos_int U
  have hmn : ¬ m * 2 ^ U < 0 := by have := Int.mul_nonneg h0 (show (0 : Int) ≤ 2 ^ U by omega); omega
  unfold rnd at hr
  rw [if_neg hmn, Int.natAbs_mul, Int.natAbs_pow] at hr
  have e2 : (2 : Int) ^ U = S := by rw [hS]; exact (Int.natCast_pow _ _).symm
  rw [e2] at hr
  simpa using hr

theorem fnt_q1 : Fnt 4605249457297304856 := by decide +kernel
theorem fnt_q2 : Fnt 4359948597267291143 := by decide +kernel

set_option maxRecDepth 100000 in
theorem iv_q1 {S : Int} (hS : S = ((2 ^ U : Nat) : Int)) : 9007199254740992 * iv 4605249457297304856 = 7074237752028440 * S := by
  obtain ⟨E, hE⟩ : ∃ E : Nat, E = 1021 := ⟨_, rfl⟩
  have h : D.read 4605249457297304856 = .number false 7074237752028440 ((E : Int) - 1074) := by rw [hE]; decide +kernel
  have hU : U = 53 + E := by rw [U_eq, hE]
  rw [iv_signed h, signed_eq, hS, hU, Nat.pow_add, Int.natCast_mul, Int.natCast_pow 2 E]
  simp only [Bool.false_eq_true, if_false, Int.one_mul]
  rw [show ((2 ^ 53 : Nat) : Int) = 9007199254740992 from rfl, ← Int.mul_assoc, ← Int.mul_assoc, Int.mul_comm 9007199254740992]
  rfl

set_option maxRecDepth 100000 in
theorem iv_q2 {S : Int} (hS : S = ((2 ^ U : Nat) : Int)) : 162259276829213363391578010288128 * iv 4359948597267291143 = 4967757600021511 * S := by
  obtain ⟨E, hE⟩ : ∃ E : Nat, E = 967 := ⟨_, rfl⟩
  have h : D.read 4359948597267291143 = .number false 4967757600021511 ((E : Int) - 1074) := by rw [hE]; decide +kernel
  have hU : U = 107 + E := by rw [U_eq, hE]
  rw [iv_signed h, signed_eq, hS, hU, Nat.pow_add, Int.natCast_mul, Int.natCast_pow 2 E]
  simp only [Bool.false_eq_true, if_false, Int.one_mul]
  rw [show ((2 ^ 107 : Nat) : Int) = 162259276829213363391578010288128 from rfl, ← Int.mul_assoc, ← Int.mul_assoc, Int.mul_comm 162259276829213363391578010288128]
  rfl

set_option maxRecDepth 100000 in
theorem neat_q : rnd (iv 4605249457297304856 + iv 4359948597267291143) = iv 4605249457297304856 := by
  obtain ⟨E, hE⟩ : ∃ E : Nat, E = 967 := ⟨_, rfl⟩
  have h1 : D.read 4605249457297304856 = .number false 7074237752028440 (((54 + E : Nat) : Int) - 1074) := by rw [hE]; decide +kernel
  have h2 : D.read 4359948597267291143 = .number false 4967757600021511 ((E : Int) - 1074) := by rw [hE]; decide +kernel
  have e1 : iv 4605249457297304856 = (7074237752028440 * 2 ^ 54) * 2 ^ E := by
    rw [iv_signed h1, signed_eq, Int.pow_add, ← Int.mul_assoc]
    rfl
  have e2 : iv 4359948597267291143 = 4967757600021511 * 2 ^ E := by
    rw [iv_signed h2, signed_eq]
    rfl
  have e3 : rnd (7074237752028440 * 2 ^ 54 + 4967757600021511) = 7074237752028440 * 2 ^ 54 := by decide +kernel
  rw [e1, e2, ← Int.add_mul, rnd_scale, e3]

end Go.Proofs.Ytnpkblidlmkagaa
