/- The walk of EftMild. -/
import Derived.Test.YtnpkblidlmkagaaW14
set_option linter.unusedSimpArgs false
set_option linter.unusedVariables false
namespace Go.Proofs.Ytnpkblidlmkagaa
open Go.RowKit Fl

/-- The word of an integer's bits. -/
def wordOf (a : Int) : Nat := (a % 18446744073709551616).toNat
theorem wordOf_lt (a : Int) : wordOf a < 2 ^ 64 := by unfold wordOf; omega

theorem float56_any (a : Int) (w : World) :
    Calls Try.prog 56 #[.int .i64 a] w fun z w' => z = .returned (.float .f64 (wordOf a)) ∧ w = w' := by
  have hfrom := run_from
  obtain ⟨u, hu⟩ : ∃ u, u = wordOf a := ⟨_, rfl⟩
  have hub : IntKind.u64.wrap a = (u : Int) := by rw [hu, IntKind.wrap_u64]; unfold wordOf; omega
  rw [← hu]
  clear hu
  go_enter Try.func56, Try.ntmps56
  go_wp2
  go_ret
  exact ⟨rfl, rfl⟩

set_option maxRecDepth 100000 in
theorem power_lo (w : World) :
    Calls Try.prog 86 #[.int .i64 (-400)] w fun z w' => z = .returned (.float .f64 2805742567851819008) ∧ w = w' := by
  have hfrom := run_from
  go_enter Try.func86, Try.ntmps86
  go_wp2
  go_ret
  exact ⟨rfl, rfl⟩

set_option maxRecDepth 100000 in
theorem power_hi (w : World) :
    Calls Try.prog 86 #[.int .i64 400] w fun z w' => z = .returned (.float .f64 6408622269748215808) ∧ w = w' := by
  have hfrom := run_from
  go_enter Try.func86, Try.ntmps86
  go_wp2
  go_ret
  exact ⟨rfl, rfl⟩

/-- What the reference asks of a positive float. -/
def between (y : Nat) : Bool :=
  (D.order y 2805742567851819008 == some .gt || D.order y 2805742567851819008 == some .eq) && (D.order y 6408622269748215808 == some .lt || D.order y 6408622269748215808 == some .eq)

def refMildB (x : Nat) : Bool :=
  if (D.order x 0 == some .eq) = true then true else if finB x = false then false else if (D.order x 0 == some .lt) = true then between (fneg x) else between x

set_option maxRecDepth 100000 in
theorem refMild_any (x : Nat) (w : World) (hx : x < 2 ^ 64) :
    Calls Try.prog 57 #[.float .f64 x] w fun z w' => z = .returned (.bool (refMildB x)) ∧ w = w' := by
  have c := fun w => finite_any x w hx
  obtain ⟨V, hV⟩ : ∃ V, V = refMildB x := ⟨_, rfl⟩
  rw [← hV]
  unfold refMildB at hV
  have HV := Lib.hid hV
  clear hV
  obtain ⟨f, hf⟩ : ∃ f, finB x = f := ⟨_, rfl⟩
  rw [hf] at c
  have C := Lib.hid c
  have HF := Lib.hid hf
  clear c hf
  have PL := Lib.hid power_lo
  have PH := Lib.hid power_hi
  by_cases h0 : (FloatKind.f64.format.order x 0 == some Ordering.eq) = true
  · have hv : V = true := by rw [HV.out, if_pos (show (D.order x 0 == some Ordering.eq) = true from h0)]
    go_enter Try.func57, Try.ntmps57
    go_wp2
    go_ret
    refine ⟨?_, rfl⟩
    rw [hv]; rfl
  · have h0' : (FloatKind.f64.format.order x 0 == some Ordering.eq) = false := by simpa using h0
    cases f
    · have hv : V = false := by rw [HV.out, if_neg (show ¬ (D.order x 0 == some Ordering.eq) = true from h0), if_pos HF.out]
      have HVV := Lib.hid hv
      clear hv h0
      go_enter Try.func57, Try.ntmps57
      go_wp2_with fail
      refine (C.out _).mono ?_
      rintro z w' ⟨rfl, rfl⟩
      go_wp2
      go_ret
      refine ⟨?_, rfl⟩
      rw [HVV.out]; rfl
    · have hfe : ¬ finB x = false := by rw [HF.out]; decide
      by_cases h1 : (FloatKind.f64.format.order x 0 == some Ordering.lt) = true
      · have hv : V = between (fneg x) := by rw [HV.out, if_neg (show ¬ (D.order x 0 == some Ordering.eq) = true from h0), if_neg hfe, if_pos (show (D.order x 0 == some Ordering.lt) = true from h1)]
        unfold between at hv
        obtain ⟨b2, hb2⟩ : ∃ b, (FloatKind.f64.format.order (fneg x) 2805742567851819008 == some Ordering.gt || FloatKind.f64.format.order (fneg x) 2805742567851819008 == some Ordering.eq) = b := ⟨_, rfl⟩
        obtain ⟨b3, hb3⟩ : ∃ b, (FloatKind.f64.format.order (fneg x) 6408622269748215808 == some Ordering.lt || FloatKind.f64.format.order (fneg x) 6408622269748215808 == some Ordering.eq) = b := ⟨_, rfl⟩
        have hV2 : V = (b2 && b3) := by rw [hv, ← hb2, ← hb3]; rfl
        have HVV := Lib.hid hV2
        clear hV2 hv h0 hfe
        cases b2
        all_goals
          go_enter Try.func57, Try.ntmps57
          go_wp2_with fail
          refine (C.out _).mono ?_
          rintro z w' ⟨rfl, rfl⟩
          go_wp2_with fail
          refine (PL.out _).mono ?_
          rintro z w' ⟨rfl, rfl⟩
          go_wp2_with fail
          refine (PH.out _).mono ?_
          rintro z w' ⟨rfl, rfl⟩
          go_wp2
          go_ret
          refine ⟨?_, rfl⟩
          rw [HVV.out]; rfl
      · have h1' : (FloatKind.f64.format.order x 0 == some Ordering.lt) = false := by simpa using h1
        have hv : V = between x := by rw [HV.out, if_neg (show ¬ (D.order x 0 == some Ordering.eq) = true from h0), if_neg hfe, if_neg (show ¬ (D.order x 0 == some Ordering.lt) = true from h1)]
        unfold between at hv
        obtain ⟨b2, hb2⟩ : ∃ b, (FloatKind.f64.format.order x 2805742567851819008 == some Ordering.gt || FloatKind.f64.format.order x 2805742567851819008 == some Ordering.eq) = b := ⟨_, rfl⟩
        obtain ⟨b3, hb3⟩ : ∃ b, (FloatKind.f64.format.order x 6408622269748215808 == some Ordering.lt || FloatKind.f64.format.order x 6408622269748215808 == some Ordering.eq) = b := ⟨_, rfl⟩
        have hV2 : V = (b2 && b3) := by rw [hv, ← hb2, ← hb3]; rfl
        have HVV := Lib.hid hV2
        clear hV2 hv h0 hfe h1
        cases b2
        all_goals
          go_enter Try.func57, Try.ntmps57
          go_wp2_with fail
          refine (C.out _).mono ?_
          rintro z w' ⟨rfl, rfl⟩
          go_wp2_with fail
          refine (PL.out _).mono ?_
          rintro z w' ⟨rfl, rfl⟩
          go_wp2_with fail
          refine (PH.out _).mono ?_
          rintro z w' ⟨rfl, rfl⟩
          go_wp2
          go_ret
          refine ⟨?_, rfl⟩
          rw [HVV.out]; rfl

/-- Nothing that is not finite is mild. -/
theorem order_nf {x y : Nat} (hx : x < 2 ^ 64) (hf : finB x = false) (hy : Fnt y) : D.order (fabs x) y = none ∨ D.order (fabs x) y = some .gt := by
  obtain ⟨s, m, k, h1, _⟩ := read_fin hy
  unfold Ieee.Format.order
  rw [h1]
  have he : x / 2 ^ 52 % 2048 = 2047 := by unfold finB at hf; simpa using hf
  have h2 : fabs x < 2 ^ 63 := by unfold fabs; omega
  have h3 : 2047 * 2 ^ 52 ≤ fabs x := by unfold fabs; omega
  unfold Ieee.Format.read
  rw [D_least, D_binade, D_sign, D_inf]
  simp only
  rw [if_neg (by omega), if_neg (by omega)]
  have hs : (fabs x / 2 ^ 63 % 2 == 1) = false := by rw [Nat.div_eq_of_lt h2]; rfl
  split
  · right
    simp only [Ieee.Datum.order, hs]
    rfl
  · left
    simp only [Ieee.Datum.order]

theorem fabs_fnt {x : Nat} (hx : Fnt x) : Fnt (fabs x) := by
  have h1 := hx.1
  have h2 := hx.2
  unfold fabs
  exact ⟨by omega, by omega⟩

theorem fnt_of_finB {x : Nat} (hx : x < 2 ^ 64) (h : finB x = true) : Fnt x := by
  unfold finB at h
  simp at h
  exact ⟨hx, by omega⟩

/-- A float's sign. -/
theorem fabs_pos {x : Nat} (hx : Fnt x) (h : 0 < iv x) : fabs x = x := by
  have h1 := hx.1
  have h2 := iv_abs hx
  have h3 : 0 < pm x := by
    obtain ⟨e, _⟩ := iv_parts hx
    have hp := pow_pos_int (pe x + 1074).toNat
    apply Decidable.byContradiction
    intro hc
    have := Int.mul_le_mul_of_nonneg_right (show pm x ≤ 0 by omega) (Int.le_of_lt hp)
    rw [← e] at this
    omega
  unfold pm at h3
  have e52 : (2 : Int) ^ 52 = 4503599627370496 := by decide
  have h4 : x / 2 ^ 63 ≠ 1 := by
    intro hc
    simp only [hc, if_true] at h3
    split at h3 <;> omega
  unfold fabs
  omega

theorem fabs_neg {x : Nat} (hx : Fnt x) (h : iv x < 0) : fabs x = fneg x := by
  have h1 := hx.1
  have h3 : pm x < 0 := by
    obtain ⟨e, _⟩ := iv_parts hx
    have hp := pow_pos_int (pe x + 1074).toNat
    apply Decidable.byContradiction
    intro hc
    have := Int.mul_le_mul_of_nonneg_right (show 0 ≤ pm x by omega) (Int.le_of_lt hp)
    rw [← e] at this
    omega
  unfold pm at h3
  have e52 : (2 : Int) ^ 52 = 4503599627370496 := by decide
  have h4 : x / 2 ^ 63 = 1 := by
    apply Decidable.byContradiction
    intro hc
    simp only [hc, if_false] at h3
    split at h3 <;> omega
  rw [fneg_eq, xor63 x h1, if_neg (by omega)]
  unfold fabs
  omega

theorem order_bool {x y : Nat} (hx : Fnt x) (hy : Fnt y) : (D.order x y == some .eq) = decide (iv x = iv y) ∧ (D.order x y == some .lt) = decide (iv x < iv y) ∧ (D.order x y == some .gt) = decide (iv y < iv x) := by
  rw [order_spec hx hy]
  simp only [compare, compareOfLessAndEq]
  by_cases h1 : iv x < iv y
  · have h2 : ¬ iv x = iv y := by omega
    have h3 : ¬ iv y < iv x := by omega
    simp [h1, h2, h3]
  · by_cases h2 : iv x = iv y
    · simp [h2]
    · have h3 : iv y < iv x := by omega
      simp [h1, h2, h3]

theorem fnt_zero : Fnt 0 := by decide

theorem mild_same (x : Nat) (hx : x < 2 ^ 64) : mildB x = refMildB x := by
  have fl : Fnt 2805742567851819008 := by decide
  have fh : Fnt 6408622269748215808 := by decide
  by_cases hf : finB x = true
  · have fx := fnt_of_finB hx hf
    have o := order_bool fx fnt_zero
    rw [iv_zero] at o
    have oa := order_bool (fabs_fnt fx) fnt_zero
    rw [iv_zero] at oa
    have hfe : ¬ finB x = false := by rw [hf]; decide
    unfold refMildB
    rcases Int.lt_trichotomy (iv x) 0 with h | h | h
    · rw [if_neg (by rw [o.1]; simp; omega), if_neg hfe, if_pos (by rw [o.2.1]; simpa using h)]
      obtain ⟨_, hn⟩ := fneg_spec fx
      unfold mildB between
      rw [oa.1, fabs_neg fx h]
      have : ¬ iv (fneg x) = 0 := by omega
      simp [this]
    · rw [if_pos (by rw [o.1]; simpa using h)]
      unfold mildB
      rw [oa.1]
      have h0 : iv (fabs x) = 0 := by
        have hm := pm_zero fx h
        unfold pm at hm
        have e52 : (2 : Int) ^ 52 = 4503599627370496 := by decide
        have : x = 0 ∨ x = 2 ^ 63 := by
          simp only at hm
          split at hm <;> split at hm <;> omega
        rcases this with rfl | rfl
        · exact iv_zero
        · exact iv_zero
      simp [h0]
    · rw [if_neg (by rw [o.1]; simp; omega), if_neg hfe, if_neg (by rw [o.2.1]; simp; omega)]
      unfold mildB between
      rw [oa.1, fabs_pos fx h]
      have : ¬ iv x = 0 := by omega
      simp [this]
  · have hf' : finB x = false := by simpa using hf
    have h1 := order_nf hx hf' fnt_zero
    have h3 := order_nf hx hf' fh
    have hl : mildB x = false := by
      unfold mildB
      have a : (D.order (fabs x) 0 == some .eq) = false := by rcases h1 with h | h <;> rw [h] <;> rfl
      have b : (D.order (fabs x) 6408622269748215808 == some .lt || D.order (fabs x) 6408622269748215808 == some .eq) = false := by rcases h3 with h | h <;> rw [h] <;> rfl
      rw [a, b]
      simp
    rw [hl]
    unfold refMildB
    have h0 : ¬ (D.order x 0 == some .eq) = true := by
      have he : x / 2 ^ 52 % 2048 = 2047 := by unfold finB at hf'; simpa using hf'
      have hz : D.read 0 = .number false 0 (-1074) := by decide +kernel
      unfold Ieee.Format.order
      rw [hz]
      unfold Ieee.Format.read
      rw [D_least, D_binade, D_sign, D_inf]
      simp only
      rw [if_neg (by omega), if_neg (by omega)]
      split
      · simp only [Ieee.Datum.order]
        split <;> decide
      · simp only [Ieee.Datum.order]
        decide
    rw [if_neg h0, if_pos hf']

theorem made_bounds (n k a b : Nat) (h0 : 2 ^ 52 ≤ n) (h1 : n < 2 ^ 53) (ka : a ≤ k) (kb : k < b) : (2 : Int) ^ 52 * 2 ^ a ≤ ((n * 2 ^ k : Nat) : Int) ∧ ((n * 2 ^ k : Nat) : Int) ≤ 2 ^ 52 * 2 ^ b := by
  have p1 : 2 ^ 52 * 2 ^ a ≤ n * 2 ^ k := Nat.mul_le_mul h0 (pow_mono ka)
  have p2 : n * 2 ^ k ≤ 2 ^ 52 * 2 ^ b := by
    obtain ⟨c, rfl⟩ : ∃ c, b = c + 1 := ⟨b - 1, by omega⟩
    have : n * 2 ^ k ≤ 2 ^ 53 * 2 ^ c := Nat.mul_le_mul (Nat.le_of_lt h1) (pow_mono (by omega))
    exact Nat.le_trans this (by rw [← Nat.pow_add, ← Nat.pow_add]; exact pow_mono (by omega))
  have q1 := Int.ofNat_le.2 p1
  have q2 := Int.ofNat_le.2 p2
  have r : ∀ c : Nat, ((2 ^ 52 * 2 ^ c : Nat) : Int) = 2 ^ 52 * 2 ^ c := by
    intro c
    rw [Int.natCast_mul, Int.natCast_pow, Int.natCast_pow]; rfl
  rw [r] at q1 q2
  exact ⟨q1, q2⟩

/-- What the laws make is mild. -/
theorem mild_made (a : Int) : mildB (mildF a) = true := by
  obtain ⟨A, k, m, k1, k2⟩ := mildF_spec a
  have fl : Fnt 2805742567851819008 := by decide
  have fh : Fnt 6408622269748215808 := by decide
  have vl : iv 2805742567851819008 = 2 ^ 52 * 2 ^ 622 := by
    have h : D.read 2805742567851819008 = .number false (2 ^ 52) ((622 : Nat) - 1074) := by decide +kernel
    rw [iv_signed h, signed_eq]
    simp only [Bool.false_eq_true, if_false, Int.one_mul]
    rfl
  have vh : iv 6408622269748215808 = 2 ^ 52 * 2 ^ 1422 := by
    have h : D.read 6408622269748215808 = .number false (2 ^ 52) ((1422 : Nat) - 1074) := by decide +kernel
    rw [iv_signed h, signed_eq]
    simp only [Bool.false_eq_true, if_false, Int.one_mul]
    rfl
  have habs := m.abs
  generalize mildF a = x at *
  have fx := m.f
  have fa := fabs_fnt fx
  have hva : (iv (fabs x)) = ((iv x).natAbs : Int) := by
    rcases Int.lt_trichotomy (iv x) 0 with h | h | h
    · rw [fabs_neg fx h, (fneg_spec fx).2]; omega
    · have := iv_abs fa
      have h2 := pm_zero fx h
      have e52 : (2 : Int) ^ 52 = 4503599627370496 := by decide
      unfold pm at h2
      have h1 := fx.1
      have : x = 0 ∨ x = 2 ^ 63 := by
        simp only at h2
        split at h2 <;> split at h2 <;> omega
      rcases this with rfl | rfl
      · rw [show fabs 0 = 0 from rfl, iv_zero]; rfl
      · rw [show fabs (2 ^ 63) = 0 from rfl, iv_zero, h]; rfl
    · rw [fabs_pos fx h]; omega
  unfold mildB
  rw [(order_bool fa fnt_zero).1, (order_bool fa fl).2.2, (order_bool fa fl).1, (order_bool fa fh).2.1, (order_bool fa fh).1, hva, vl, vh, iv_zero, habs]
  rcases m.n with h0 | h0
  · have h9 : A.natAbs = 0 := by omega
    rw [h9, Nat.zero_mul]
    generalize (2 : Int) ^ 52 * 2 ^ 622 = LO at *
    generalize (2 : Int) ^ 52 * 2 ^ 1422 = HI at *
    rfl
  · have q := made_bounds A.natAbs k 622 1422 h0 m.lt k1 k2
    obtain ⟨q1, q2⟩ := q
    generalize ((A.natAbs * 2 ^ k : Nat) : Int) = Z at *
    generalize (2 : Int) ^ 52 * 2 ^ 622 = LO at *
    generalize (2 : Int) ^ 52 * 2 ^ 1422 = HI at *
    have c1 : (decide (LO < Z) || decide (Z = LO)) = true := by simp; omega
    have c2 : (decide (Z < HI) || decide (Z = HI)) = true := by simp; omega
    rw [c1, c2]
    simp

set_option maxRecDepth 100000 in
theorem eftmild_walk (a : Int) (w : World) :
    Calls Try.prog 15 #[.int .i64 a] w fun z w' => z = .returned (.bool true) ∧ Below w.heap.size w w' := by
  have c1 := fun w => eftMild_any (wordOf a) w (wordOf_lt a)
  have c2 := fun w => refMild_any (wordOf a) w (wordOf_lt a)
  have fm : mildF a < 2 ^ 64 := by
    obtain ⟨A, k, m, _, _⟩ := mildF_spec a
    exact m.f.1
  have c3 := fun w => eftMild_any (mildF a) w fm
  rw [mild_made a] at c3
  rw [← mild_same _ (wordOf_lt a)] at c2
  have d1 := fun w => float56_any a w
  have d2 := fun w => mild_any a w
  generalize wordOf a = u at *
  generalize mildF a = v at *
  obtain ⟨b, hb⟩ : ∃ b, mildB u = b := ⟨_, rfl⟩
  rw [hb] at c1 c2
  have C1 := Lib.hid c1
  have C2 := Lib.hid c2
  have C3 := Lib.hid c3
  have D1 := Lib.hid d1
  have D2 := Lib.hid d2
  clear c1 c2 c3 d1 d2 hb fm
  have e : (b == b) = true := by simp
  cases b
  all_goals
    go_enter Try.func15, Try.ntmps15
    go_wp2_with fail
    refine (wakes3_any _).mono ?_
    rintro z w1 ⟨rfl, hb⟩
    have HB := Lib.hid hb
    clear hb
    go_wp2_with fail
    refine (D1.out _).mono ?_
    rintro z w' ⟨rfl, rfl⟩
    go_wp2_with fail
    refine (C1.out _).mono ?_
    rintro z w' ⟨rfl, rfl⟩
    go_wp2_with fail
    refine (D1.out _).mono ?_
    rintro z w' ⟨rfl, rfl⟩
    go_wp2_with fail
    refine (C2.out _).mono ?_
    rintro z w' ⟨rfl, rfl⟩
    go_wp2_with fail
    refine (D2.out _).mono ?_
    rintro z w' ⟨rfl, rfl⟩
    go_wp2_with fail
    refine (C3.out _).mono ?_
    rintro z w' ⟨rfl, rfl⟩
    go_wp2
    go_ret
    exact ⟨rfl, HB.out⟩

end Go.Proofs.Ytnpkblidlmkagaa
