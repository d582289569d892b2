/- Frexp of every finite float. -/
import Derived.Test.YtnpkblidlmkagaaW22
set_option linter.unusedSimpArgs false
set_option linter.unusedVariables false
namespace Go.Proofs.Ytnpkblidlmkagaa
open Go.RowKit Fl

theorem norm_sub (x y : Nat) (w : World) (hx : x < 2 ^ 64) (h : (FloatKind.f64.format.order (fabs x) 4503599627370496 == some Ordering.lt) = true) (hy : fmul x 4841369599423283200 = some y) :
    Calls Try.prog 109 #[.float .f64 x] w fun z w' => z = .returned (.tuple #[.float .f64 y, .int .i64 (-52)]) ∧ w = w' := by
  replace hy := hmul hy
  go_enter Try.func109, Try.ntmps109
  go_wp2_with fail
  refine (abs_any x _ hx).mono ?_
  rintro z w' ⟨rfl, rfl⟩
  go_wp2_with (first | simp only [hy] | fail)
  go_ret2
  exact ⟨rfl, rfl⟩

set_option maxRecDepth 100000 in
theorem frexpG (x y : Nat) (d : Int) (w : World) (hx : x < 2 ^ 64) (hy : y < 2 ^ 64) (hd : -60 ≤ d) (hd0 : d ≤ 0) (h0 : (FloatKind.f64.format.order x 0 == some Ordering.eq) = false)
    (h1 : (FloatKind.f64.format.order x x != some Ordering.eq) = false) (h2 : (FloatKind.f64.format.order (fabs x) 9218868437227405311 == some Ordering.gt) = false)
    (h3 : ∀ w, Calls Try.prog 109 #[.float .f64 x] w fun z w' => z = .returned (.tuple #[.float .f64 y, .int .i64 d]) ∧ w = w') :
    Calls Try.prog 97 #[.float .f64 x] w fun z w' => ∃ r, z = .returned (.tuple #[.float .f64 r, .int .i64 (d + (((y / 4503599627370496 % 2048 : Nat) : Int) - 1022))]) ∧ w = w' := by
  have hbits := run_bits
  have hfrom := run_from
  have c1 := fun w => isnan_any x _ w h1
  have c2 := fun w => isinf_any x _ w hx h2
  have C1 := Lib.hid c1
  have C2 := Lib.hid c2
  have C3 := Lib.hid h3
  clear c1 c2 h3 h1 h2
  have a1 := and2047 y hy
  obtain ⟨e, he⟩ : ∃ e, e = y / 4503599627370496 % 2048 := ⟨_, rfl⟩
  rw [← he] at a1 ⊢
  have hel : e < 2048 := by omega
  obtain ⟨E, hE⟩ : ∃ E : Int, E = d + ((e : Int) - 1022) := ⟨_, rfl⟩
  have hE2 : d + ((e : Int) - 1023 + 1) = E := by omega
  rw [← hE]
  clear he hE
  go_enter Try.func97, Try.ntmps97
  go_wp2_with fail
  refine (C2.out _).mono ?_
  rintro z w' ⟨rfl, rfl⟩
  go_wp2_with fail
  refine (C1.out _).mono ?_
  rintro z w' ⟨rfl, rfl⟩
  go_wp2_with fail
  refine (C3.out _).mono ?_
  rintro z w' ⟨rfl, rfl⟩
  go_wp2
  go_ret2
  exact ⟨_, rfl, rfl⟩

theorem frexp2G (x : Nat) (K : Int) (w : World) (hK : ∀ w, Calls Try.prog 97 #[.float .f64 x] w fun z w' => ∃ r, z = .returned (.tuple #[.float .f64 r, .int .i64 K]) ∧ w = w') :
    Calls Try.prog 80 #[.float .f64 x] w fun z w' => ∃ r, z = .returned (.tuple #[.float .f64 r, .int .i64 K]) ∧ w = w' := by
  have C := Lib.hid hK
  clear hK
  go_enter Try.func80, Try.ntmps80
  go_wp2_with fail
  refine (C.out _).mono ?_
  rintro z w' ⟨r, rfl, rfl⟩
  go_wp2
  go_ret2
  exact ⟨r, rfl, rfl⟩

/-- The exponent field of a float that isn't tiny. -/
theorem expo_spec {x : Nat} (fx : Fnt x) (lo : 2 ^ 52 ≤ (iv x).natAbs) :
    ∃ E : Nat, ((x / 4503599627370496 % 2048 : Nat) : Int) - 1022 = (E : Int) - 1074 ∧ (iv x).natAbs < 2 ^ E ∧ 2 ^ (E - 1) ≤ (iv x).natAbs ∧ 53 ≤ E ∧ E ≤ 2098 := by
  obtain ⟨e1, e2, e3, e4, e5⟩ := iv_parts fx
  have pn := pm_norm fx
  have e6 := iv_abs fx
  have e52 : (2 : Nat) ^ 52 = 4503599627370496 := by decide
  have hm : 2 ^ 52 ≤ (pm x).natAbs := by
    rcases pn with h | h
    · rw [h] at e6
      rw [show ((-1074 : Int) + 1074).toNat = 0 from rfl, Nat.pow_zero, Nat.mul_one] at e6
      omega
    · exact h
  have hf : x / 2 ^ 52 % 2048 ≠ 0 := by
    intro h
    unfold pm at hm
    simp only [h, if_true] at hm
    have : x % 2 ^ 52 < 2 ^ 52 := Nat.mod_lt _ (Nat.two_pow_pos _)
    split at hm <;> omega
  have hK : ((x / 4503599627370496 % 2048 : Nat) : Int) - 1022 = pe x + 53 := by
    unfold pe
    rw [if_neg hf, e52]
    omega
  obtain ⟨E, hE⟩ : ∃ E : Nat, (E : Int) = pe x + 53 + 1074 := ⟨(pe x + 53 + 1074).toNat, by omega⟩
  obtain ⟨j, hj⟩ : ∃ j : Nat, j = (pe x + 1074).toNat := ⟨_, rfl⟩
  have hEj : E = 53 + j := by omega
  rw [← hj] at e6
  refine ⟨E, by omega, ?_, ?_, by omega, by omega⟩
  · rw [e6, hEj]; exact mul_lt_pow (by omega) (Nat.le_refl _)
  · rw [e6, hEj]; exact pow_le_mul2 (a := j) (by omega) hm (Nat.le_refl _)

theorem fnt_p52 : Fnt 4841369599423283200 := by decide +kernel

set_option maxRecDepth 100000 in
theorem iv_p52 : iv 4841369599423283200 = 2 ^ 52 * 2 ^ U := by
  obtain ⟨E, hE⟩ : ∃ E : Nat, E = 1074 := ⟨_, rfl⟩
  have h : D.read 4841369599423283200 = .number false (2 ^ 52) ((E : Int) - 1074) := by rw [hE]; decide +kernel
  rw [iv_signed h, signed_eq, show U = E by rw [U_eq, hE]]
  simp

/-- What Frexp tells of a positive finite float. -/
theorem frexp_top {x : Nat} (fx : Fnt x) (hp : 0 < iv x) : ∃ (K : Int) (E : Nat), (∀ w, Calls Try.prog 80 #[.float .f64 x] w fun z w' => ∃ r, z = .returned (.tuple #[.float .f64 r, .int .i64 K]) ∧ w = w') ∧
    (E : Int) = K + 1074 ∧ iv x < ((2 ^ E : Nat) : Int) ∧ ((2 ^ (E - 1) : Nat) : Int) ≤ iv x ∧ 1 ≤ E ∧ E ≤ 2098 := by
  have ob := order_bool fx fnt_zero
  rw [iv_zero] at ob
  obtain ⟨F, hF, vm⟩ := iv_max
  have oa := order_bool (fabs_fnt fx) fnt_max
  have on := order_bool (fabs_fnt fx) fnt_min
  have os := order_bool fx fx
  rw [iv_fabs fx, vm] at oa
  rw [iv_fabs fx, iv_min] at on
  have hb : (iv x).natAbs < 9007199254740992 * 2 ^ F := by
    obtain ⟨e1, e2, e3, e4, e5⟩ := iv_parts fx
    rw [iv_abs fx]
    have h1 : (2 : Nat) ^ (pe x + 1074).toNat ≤ 2 ^ F := pow_mono (by omega)
    have h2 : (pm x).natAbs * 2 ^ (pe x + 1074).toNat ≤ (pm x).natAbs * 2 ^ F := Nat.mul_le_mul_left _ h1
    have h3 : (pm x).natAbs * 2 ^ F < 9007199254740992 * 2 ^ F := Nat.mul_lt_mul_of_pos_right (by omega) (Nat.two_pow_pos _)
    omega
  have hle : (iv x).natAbs ≤ 9007199254740991 * 2 ^ F := by
    obtain ⟨e1, e2, e3, e4, e5⟩ := iv_parts fx
    rw [iv_abs fx]
    have h1 : (2 : Nat) ^ (pe x + 1074).toNat ≤ 2 ^ F := pow_mono (by omega)
    have h2 : (pm x).natAbs * 2 ^ (pe x + 1074).toNat ≤ (pm x).natAbs * 2 ^ F := Nat.mul_le_mul_left _ h1
    have h3 : (pm x).natAbs * 2 ^ F ≤ 9007199254740991 * 2 ^ F := Nat.mul_le_mul_right _ (by omega)
    omega
  have z0 : (FloatKind.f64.format.order x 0 == some Ordering.eq) = false := by
    show (D.order x 0 == some .eq) = false
    rw [ob.1]; simp; omega
  have z1 : (FloatKind.f64.format.order x x != some Ordering.eq) = false := by
    show (D.order x x != some .eq) = false
    have : (D.order x x == some .eq) = true := by rw [os.1]; simp
    simp only [bne, this]; rfl
  have z2 : (FloatKind.f64.format.order (fabs x) 9218868437227405311 == some Ordering.gt) = false := by
    show (D.order (fabs x) _ == some .gt) = false
    rw [oa.2.2]
    have h9 : ((9007199254740991 * 2 ^ F : Nat) : Int) = 9007199254740991 * 2 ^ F := by rw [Int.natCast_mul, Int.natCast_pow]; rfl
    rw [← h9]
    apply decide_eq_false
    omega
  have e52 : ((2 ^ 52 : Nat) : Int) = (2 : Int) ^ 52 := by decide
  by_cases hs : (iv x).natAbs < 2 ^ 52
  · have z3 : (FloatKind.f64.format.order (fabs x) 4503599627370496 == some Ordering.lt) = true := by
      show (D.order (fabs x) _ == some .lt) = true
      rw [on.2.1, ← e52]
      apply decide_eq_true
      omega
    obtain ⟨y, hy, fy, vy⟩ := fmul_whole fx fnt_p52 (p := iv x * 2 ^ 52) (by rw [iv_p52, Int.mul_assoc]) (by
      rw [Int.natAbs_mul, Int.natAbs_pow]
      have h1 : (iv x).natAbs * 2 ^ 52 < 2 ^ 52 * 2 ^ 52 := Nat.mul_lt_mul_of_pos_right hs (Nat.two_pow_pos _)
      rw [← Nat.pow_add] at h1
      exact Nat.lt_of_lt_of_le h1 (pow_mono (by have := Bt_eq; omega)))
    rw [rnd_scale, (rep_iv fx).rnd_eq] at vy
    have hya : (iv y).natAbs = (iv x).natAbs * 2 ^ 52 := by rw [vy, Int.natAbs_mul, Int.natAbs_pow]; rfl
    obtain ⟨E, g1, g2, g3, g4, g5⟩ := expo_spec fy (by rw [hya]; exact Nat.le_mul_of_pos_left _ (by omega))
    obtain ⟨j, rfl⟩ : ∃ j, E = 53 + j := ⟨E - 53, by omega⟩
    have k1 : (iv x).natAbs < 2 ^ (1 + j) := by
      rw [hya, show 53 + j = (1 + j) + 52 by omega, Nat.pow_add] at g2
      exact Nat.lt_of_mul_lt_mul_right g2
    have k2 : 2 ^ j ≤ (iv x).natAbs := by
      rw [hya, show 53 + j - 1 = j + 52 by omega, Nat.pow_add] at g3
      exact Nat.le_of_mul_le_mul_right g3 (Nat.two_pow_pos _)
    refine ⟨-52 + (((y / 4503599627370496 % 2048 : Nat) : Int) - 1022), 1 + j, fun w => frexp2G x _ w (fun w => frexpG x y (-52) w fx.1 fy.1 (by omega) (by omega) z0 z1 z2 (fun w => norm_sub x y w fx.1 z3 hy)), by omega, ?_, ?_, by omega, by omega⟩
    · omega
    · rw [show 1 + j - 1 = j by omega]; omega
  · have z3 : (FloatKind.f64.format.order (fabs x) 4503599627370496 == some Ordering.lt) = false := by
      show (D.order (fabs x) _ == some .lt) = false
      rw [on.2.1, ← e52]
      apply decide_eq_false
      omega
    obtain ⟨E, g1, g2, g3, g4, g5⟩ := expo_spec fx (by omega)
    refine ⟨((x / 4503599627370496 % 2048 : Nat) : Int) - 1022, E, fun w => frexp2_any x w fx.1 z0 z1 z2 z3, by omega, by omega, by omega, by omega, by omega⟩

end Go.Proofs.Ytnpkblidlmkagaa
