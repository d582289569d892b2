/- The contract of top: the exponent of a float. -/
import Derived.Test.YtnpkblidlmkagaaW19
set_option linter.unusedSimpArgs false
set_option linter.unusedVariables false
namespace Go.Proofs.Ytnpkblidlmkagaa
open Go.RowKit Fl

@[irreducible] def mxE : Nat := 1971
theorem mxE_eq : mxE = 1971 := by unfold mxE; rfl

theorem fnt_max : Fnt 9218868437227405311 := by decide +kernel
theorem fnt_min : Fnt 4503599627370496 := by decide +kernel

set_option maxRecDepth 100000 in
theorem iv_max : ∃ E : Nat, E = 2045 ∧ iv 9218868437227405311 = 9007199254740991 * 2 ^ E := by
  obtain ⟨E, hE⟩ : ∃ E : Nat, E = 2045 := ⟨_, rfl⟩
  refine ⟨E, hE, ?_⟩
  have h : D.read 9218868437227405311 = .number false 9007199254740991 ((E : Int) - 1074) := by rw [hE]; decide +kernel
  rw [iv_signed h, signed_eq]
  simp

set_option maxRecDepth 100000 in
theorem iv_min : iv 4503599627370496 = 2 ^ 52 := by
  have h : D.read 4503599627370496 = .number false (2 ^ 52) ((0 : Nat) - 1074) := by decide +kernel
  rw [iv_signed h, signed_eq]
  simp

theorem top_zero (x : Nat) (w : World) (h0 : (FloatKind.f64.format.order x 0 == some Ordering.eq) = true) :
    Calls Try.prog 38 #[.float .f64 x] w fun z w' => z = .returned (.int .i64 (-1200)) ∧ w = w' := by
  go_enter Try.func38, Try.ntmps38
  go_wp2
  go_ret
  exact ⟨rfl, rfl⟩

theorem top_not (x : Nat) (K : Int) (w : World) (hx : x < 2 ^ 64) (h0 : (FloatKind.f64.format.order x 0 == some Ordering.eq) = false)
    (h1 : (FloatKind.f64.format.order x x != some Ordering.eq) = false) (h2 : (FloatKind.f64.format.order (fabs x) 9218868437227405311 == some Ordering.gt) = false)
    (h3 : (FloatKind.f64.format.order (fabs x) 4503599627370496 == some Ordering.lt) = false) (hK : ((x / 4503599627370496 % 2048 : Nat) : Int) - 1022 = K) :
    Calls Try.prog 38 #[.float .f64 x] w fun z w' => z = .returned (.int .i64 K) ∧ w = w' := by
  have c := fun w => frexp2_any x w hx h0 h1 h2 h3
  rw [hK] at c
  have C := Lib.hid c
  clear c h1 h2 h3 hK
  go_enter Try.func38, Try.ntmps38
  go_wp2_with fail
  refine (C.out _).mono ?_
  rintro z w' ⟨r, rfl, rfl⟩
  go_wp2
  go_ret
  exact ⟨rfl, rfl⟩

/-- What top tells of a tame number's first part. -/
theorem top_any (x : Nat) (fx : Fnt x) (hs : iv x = 0 ∨ (2 ^ loE ≤ (iv x).natAbs ∧ (iv x).natAbs < 2 ^ hiE)) :
    ∃ K : Int, (∀ w, Calls Try.prog 38 #[.float .f64 x] w fun z w' => z = .returned (.int .i64 K) ∧ w = w') ∧ -1200 ≤ K ∧ K ≤ 200 ∧
      ((iv x = 0 ∧ K = -1200) ∨ ∃ E : Nat, (E : Int) = K + 1074 ∧ (iv x).natAbs < 2 ^ E ∧ 2 ^ (E - 1) ≤ (iv x).natAbs ∧ loE ≤ E) := by
  have ob := order_bool fx fnt_zero
  rw [iv_zero] at ob
  rcases hs with h | ⟨lo, hi⟩
  · exact ⟨-1200, fun w => top_zero x w (by show (D.order x 0 == some .eq) = true; rw [ob.1]; simpa using h), by omega, by omega, .inl ⟨h, rfl⟩⟩
  · have h0 : iv x ≠ 0 := by
      intro h
      rw [h] at lo
      have := Nat.two_pow_pos loE
      omega
    obtain ⟨e1, e2, e3, e4, e5⟩ := iv_parts fx
    have p1 := pe_lo fx lo
    have p2 := pe_hi fx hi
    have pn := pm_norm fx
    have e6 := iv_abs fx
    have el := loE_eq
    have eh := hiE_eq
    have hK : ((x / 4503599627370496 % 2048 : Nat) : Int) - 1022 = pe x + 53 := by
      unfold pe at p1 ⊢
      have e52 : (2 : Nat) ^ 52 = 4503599627370496 := by decide
      rw [e52] at p1 ⊢
      split at p1
      · omega
      · rename_i hne
        rw [if_neg hne]
        omega
    obtain ⟨E, hE⟩ : ∃ E : Nat, (E : Int) = pe x + 53 + 1074 := ⟨(pe x + 53 + 1074).toNat, by omega⟩
    obtain ⟨j, hj⟩ : ∃ j : Nat, j = (pe x + 1074).toNat := ⟨_, rfl⟩
    have hEj : E = 53 + j := by omega
    rw [← hj] at e6
    have up : (iv x).natAbs < 2 ^ E := by
      rw [e6, hEj]
      exact mul_lt_pow (by omega) (Nat.le_refl _)
    have dn : 2 ^ (E - 1) ≤ (iv x).natAbs := by
      rw [e6, hEj]
      exact pow_le_mul2 (a := j) (by omega) (by omega) (Nat.le_refl _)
    obtain ⟨F, hF, vm⟩ := iv_max
    have oa := order_bool (fabs_fnt fx) fnt_max
    have on := order_bool (fabs_fnt fx) fnt_min
    have os := order_bool fx fx
    rw [iv_fabs fx, vm] at oa
    rw [iv_fabs fx, iv_min] at on
    refine ⟨pe x + 53, fun w => top_not x _ w fx.1 ?_ ?_ ?_ ?_ hK, by omega, by omega, .inr ⟨E, hE, up, dn, by omega⟩⟩
    · show (D.order x 0 == some .eq) = false
      rw [ob.1]; simpa using h0
    · show (D.order x x != some .eq) = false
      have : (D.order x x == some .eq) = true := by rw [os.1]; simp
      simp only [bne, this]; rfl
    · show (D.order (fabs x) _ == some .gt) = false
      rw [oa.2.2]
      have : 2 ^ hiE ≤ 2 ^ F := pow_mono (by omega)
      have h9 : ((2 ^ F : Nat) : Int) = 2 ^ F := Int.natCast_pow _ _
      rw [← h9]
      generalize 2 ^ F = P at *
      generalize 2 ^ hiE = Q at *
      simp
      omega
    · show (D.order (fabs x) _ == some .lt) = false
      rw [on.2.1]
      have : 2 ^ 52 ≤ 2 ^ loE := pow_mono (by omega)
      have h9 : (2 : Int) ^ 52 = ((2 ^ 52 : Nat) : Int) := by decide
      rw [h9]
      generalize 2 ^ loE = Q at *
      simp
      omega

end Go.Proofs.Ytnpkblidlmkagaa
