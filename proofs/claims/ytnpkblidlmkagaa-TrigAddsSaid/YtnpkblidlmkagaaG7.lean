/- The series and near: finite, neat, small, and what they do. -/
import Derived.Test.YtnpkblidlmkagaaG6
set_option linter.unusedSimpArgs false
set_option linter.unusedVariables false
namespace Go.Proofs.Ytnpkblidlmkagaa
open Fl

theorem ok_one {S : Int} (hS : S = ((2 ^ U : Nat) : Int)) : Ok (oneW, 0) S := by
  have h : iv oneW = S := by rw [hS]; show iv 4607182418800017408 = _; rw [iv_one]; exact (Int.natCast_pow _ _).symm
  exact ⟨fnt_one, fnt_zero, by rw [← h]; exact (rep_iv fnt_one).rnd_eq, by show iv oneW + iv 0 = S; rw [h, iv_zero]; omega⟩
theorem ok_zero : Ok (0, 0) 0 := ⟨fnt_zero, fnt_zero, by rw [rnd_zero]; exact iv_zero.symm, by show iv 0 + iv 0 = 0; rw [iv_zero]; rfl⟩

/-- What all rounds do. -/
structure SerAll (S Q f : Int) (R : Nat) (T W : Nat → Int) : Prop where
  t0 : T 0 = S
  w0 : W 0 = S
  rel : ∀ k, k < R → SerRel S Q ((f + 1 + 2 * (k : Int)) * (f + 1 + 2 * (k : Int) + 1)) (T k) (W k) (T (k + 1)) (W (k + 1))

theorem step_sum {S w t0 W' T' rs : Int} (hS : 0 < S) (w1 : 79228162514264337593543950336 * (W' - (w + T')) ≤ 4 * S) (w2 : -(4 * S) ≤ 79228162514264337593543950336 * (W' - (w + T')))
    (h : 38685626227668133590597632 * (20 * (T'.natAbs : Int)) ≤ 38685626227668133590597632 * (7 * (t0.natAbs : Int)) + S) (h6 : 1208925819614629174706176 * ((w.natAbs : Int) + (t0.natAbs : Int)) ≤ 1208925819614629174706176 * (2 * S) + rs) :
    1208925819614629174706176 * ((W'.natAbs : Int) + (T'.natAbs : Int)) ≤ 1208925819614629174706176 * (2 * S) + rs + S := by
  have a1 : 4951760157141521099596496896 * (W'.natAbs : Int) ≤ 4951760157141521099596496896 * ((w.natAbs : Int) + (T'.natAbs : Int)) + S := by omega
  clear w1 w2
  generalize (W'.natAbs : Int) = a at *
  generalize (T'.natAbs : Int) = b at *
  generalize (w.natAbs : Int) = c at *
  have hd : 0 ≤ (t0.natAbs : Int) := by omega
  generalize (t0.natAbs : Int) = d at *
  omega

theorem ser_to {sq : Nat × Nat} {Q S f : Int} (hS : S = ((2 ^ U : Nat) : Int)) (hq : Ok sq Q) (hQ : 10 * (Q.natAbs : Int) ≤ 7 * S) (f0 : 0 ≤ f) (R : Nat) (hR : f + 2 * (R : Int) ≤ 30) :
    ∃ (t : (Nat × Nat) × (Nat × Nat)) (T W : Nat → Int), serTo sq f R = some t ∧ Ok t.1 (T R) ∧ Ok t.2 (W R) ∧ SerAll S Q f R T W ∧ ((T R).natAbs : Int) ≤ S ∧
      1208925819614629174706176 * (((W R).natAbs : Int) + ((T R).natAbs : Int)) ≤ 1208925819614629174706176 * (2 * S) + R * S := by
  have hSp : 0 < S := by rw [hS]; have := Nat.two_pow_pos U; omega
  induction R with
  | zero => exact ⟨((oneW, 0), (oneW, 0)), fun _ => S, fun _ => S, rfl, ok_one hS, ok_one hS, ⟨rfl, rfl, fun k hk => by omega⟩, by show (S.natAbs : Int) ≤ S; omega, by show 1208925819614629174706176 * ((S.natAbs : Int) + (S.natAbs : Int)) ≤ 1208925819614629174706176 * (2 * S) + ((0 : Nat) : Int) * S; omega⟩
  | succ R ih =>
    obtain ⟨⟨t, s⟩, T, W, h1, h2, h3, h4, h5, h6⟩ := ih (by omega)
    have hRS : (R : Int) * S ≤ 15 * S := Int.mul_le_mul_of_nonneg_right (by omega) (by omega)
    obtain ⟨t', s', T', W', g1, g2, g3, g4, g5⟩ := ser_round (i := f + 1 + 2 * (R : Int)) hS hq h2 h3 hQ h5 (by omega) (by omega) (by omega)
    refine ⟨(t', s'), fun j => if j = R + 1 then T' else T j, fun j => if j = R + 1 then W' else W j, ?_, ?_, ?_, ⟨?_, ?_, ?_⟩, ?_, ?_⟩
    · show (serTo sq f R).bind _ = _
      rw [h1]; exact g1
    · show Ok t' (if R + 1 = R + 1 then T' else T (R + 1))
      rw [if_pos rfl]; exact g2
    · show Ok s' (if R + 1 = R + 1 then W' else W (R + 1))
      rw [if_pos rfl]; exact g3
    · show (if 0 = R + 1 then T' else T 0) = S
      rw [if_neg (by omega)]; exact h4.t0
    · show (if 0 = R + 1 then W' else W 0) = S
      rw [if_neg (by omega)]; exact h4.w0
    · intro k hk
      show SerRel S Q _ (if k = R + 1 then T' else T k) (if k = R + 1 then W' else W k) (if k + 1 = R + 1 then T' else T (k + 1)) (if k + 1 = R + 1 then W' else W (k + 1))
      rw [if_neg (by omega), if_neg (by omega)]
      by_cases hkR : k = R
      · subst hkR
        rw [if_pos rfl, if_pos rfl]; exact g4
      · rw [if_neg (by omega), if_neg (by omega)]
        exact h4.rel k (by omega)
    · show (((if R + 1 = R + 1 then T' else T (R + 1))).natAbs : Int) ≤ S
      rw [if_pos rfl]
      omega
    · show 1208925819614629174706176 * (((if R + 1 = R + 1 then W' else W (R + 1)).natAbs : Int) + ((if R + 1 = R + 1 then T' else T (R + 1)).natAbs : Int)) ≤ _
      rw [if_pos rfl, if_pos rfl]
      have w1 := g4.w1
      have w2 := g4.w2
      rw [Int.natCast_add, Int.add_mul]
      have := step_sum hSp w1 w2 g5 h6
      omega

end Go.Proofs.Ytnpkblidlmkagaa
