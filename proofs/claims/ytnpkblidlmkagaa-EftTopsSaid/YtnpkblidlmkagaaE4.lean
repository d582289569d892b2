/- The contract of the document's Top. -/
import Derived.Test.YtnpkblidlmkagaaE3
set_option linter.unusedSimpArgs false
set_option linter.unusedVariables false
namespace Go.Proofs.Ytnpkblidlmkagaa
open Go.RowKit Fl

theorem iv_tiny {x : Nat} (h : x < 2 ^ 52) : Fnt x ∧ iv x = x := by
  have fx : Fnt x := ⟨by omega, by omega⟩
  refine ⟨fx, ?_⟩
  have h1 := (iv_parts fx).1
  have a : x / 2 ^ 52 = 0 := Nat.div_eq_of_lt h
  have b : x / 2 ^ 63 = 0 := Nat.div_eq_of_lt (by omega)
  have c : x % 2 ^ 52 = x := Nat.mod_eq_of_lt h
  unfold pm pe at h1
  simp only [a, b, c, Nat.zero_mod, if_true] at h1
  rw [if_neg (by omega)] at h1
  simpa using h1

theorem iv_power (e : Nat) (h1 : 1 ≤ e) (h2 : e ≤ 2046) : Fnt (e * 2 ^ 52) ∧ iv (e * 2 ^ 52) = ((2 ^ (51 + e) : Nat) : Int) := by
  have fx : Fnt (e * 2 ^ 52) := ⟨by omega, by omega⟩
  refine ⟨fx, ?_⟩
  have g := (iv_parts fx).1
  have a : e * 2 ^ 52 / 2 ^ 52 % 2048 = e := by omega
  have b : e * 2 ^ 52 / 2 ^ 63 = 0 := by omega
  have c : e * 2 ^ 52 % 2 ^ 52 = 0 := by omega
  unfold pm pe at g
  simp only [a, b, c] at g
  rw [if_neg (by omega), if_neg (by omega), if_neg (by omega)] at g
  rw [g, show ((e : Int) - 1075 + 1074).toNat = e - 1 by omega, show 51 + e = 52 + (e - 1) by omega, Nat.pow_add]
  simp

set_option maxRecDepth 100000 in
theorem power_sub (K : Int) (w : World) (h1 : -1074 ≤ K) (h2 : K < -1022) :
    Calls Try.prog 86 #[.int .i64 K] w fun z w' => ∃ p, z = .returned (.float .f64 p) ∧ Fnt p ∧ iv p = ((2 ^ (K + 1074).toNat : Nat) : Int) ∧ w = w' := by
  have hfrom := run_from
  obtain ⟨j, hj⟩ : ∃ j : Nat, j = (K + 1074).toNat := ⟨_, rfl⟩
  have hj52 : (2 : Nat) ^ j < 2 ^ 52 := Nat.pow_lt_pow_right (by omega) (by omega)
  have e : (2 : Int) ^ j = ((2 ^ j : Nat) : Int) := (Int.natCast_pow _ _).symm
  have hw : (IntKind.u64.wrap (2 ^ j)).toNat = 2 ^ j := by
    have e52 : (2 : Nat) ^ 52 = 4503599627370496 := by decide
    rw [e, IntKind.wrap_u64]
    generalize 2 ^ j = q at *
    omega
  have hiv := iv_tiny hj52
  go_enter Try.func86, Try.ntmps86
  go_wp2
  go_ret
  rw [← hj, hw]
  exact ⟨_, rfl, hiv.1, hiv.2, rfl⟩

set_option maxRecDepth 100000 in
theorem power_norm (K : Int) (w : World) (h1 : -1022 ≤ K) (h2 : K ≤ 1023) :
    Calls Try.prog 86 #[.int .i64 K] w fun z w' => ∃ p, z = .returned (.float .f64 p) ∧ Fnt p ∧ iv p = ((2 ^ (K + 1074).toNat : Nat) : Int) ∧ w = w' := by
  have hfrom := run_from
  obtain ⟨e, he⟩ : ∃ e : Nat, (e : Int) = K + 1023 := ⟨(K + 1023).toNat, by omega⟩
  have hiv := iv_power e (by omega) (by omega)
  have e52 : (2 : Nat) ^ 52 = 4503599627370496 := by decide
  have hw : ((K + 1023) * 4503599627370496).toNat = e * 2 ^ 52 := by rw [← he, e52]; omega
  have hp : (K + 1074).toNat = 51 + e := by omega
  go_enter Try.func86, Try.ntmps86
  go_wp2
  go_ret
  have hiv' : Fnt (e * 4503599627370496) ∧ iv (e * 4503599627370496) = ((2 ^ (51 + e) : Nat) : Int) := hiv
  refine ⟨_, rfl, ?_⟩
  first
  | exact ⟨hiv'.1, hiv'.2, rfl⟩
  | (rw [hw, hp]; exact ⟨hiv.1, hiv.2, rfl⟩)
  | exact ⟨hiv'.1, by rw [hiv'.2]; simp, rfl⟩

theorem power_any (K : Int) (w : World) (h1 : -1074 ≤ K) (h2 : K ≤ 1023) :
    Calls Try.prog 86 #[.int .i64 K] w fun z w' => ∃ p, z = .returned (.float .f64 p) ∧ Fnt p ∧ iv p = ((2 ^ (K + 1074).toNat : Nat) : Int) ∧ w = w' := by
  by_cases h : K < -1022
  · exact power_sub K w h1 h
  · exact power_norm K w (by omega) h2

/-- l >= p or -l >= p: the magnitude isn't below p. -/
theorem ge_bool {x p : Nat} (fx : Fnt x) (fp : Fnt p) :
    ((D.order x p == some .gt || D.order x p == some .eq) || (D.order (fneg x) p == some .gt || D.order (fneg x) p == some .eq)) = decide (¬ ((iv x).natAbs : Int) < iv p) := by
  obtain ⟨fn, vn⟩ := fneg_spec fx
  have o1 := order_bool fx fp
  have o2 := order_bool fn fp
  rw [o1.2.2, o1.1, o2.2.2, o2.1, vn]
  by_cases h : ((iv x).natAbs : Int) < iv p
  · have a1 : ¬ iv p < iv x := by omega
    have a2 : ¬ iv x = iv p := by omega
    have a3 : ¬ iv p < -iv x := by omega
    have a4 : ¬ -iv x = iv p := by omega
    simp [a1, a2, a3, a4, h]
  · have : (iv p < iv x ∨ iv x = iv p) ∨ (iv p < -iv x ∨ -iv x = iv p) := by omega
    simp only [h, not_false_eq_true, decide_true]
    rcases this with (g | g) | (g | g) <;> simp [g]

set_option maxRecDepth 100000 in
set_option maxHeartbeats 2000000 in
theorem refTop_any (A : Option Addr) (n c : Nat) (f : Nat → Nat) (w : World) (hA : FltsAt w A n f) (hn : n ≤ 1000) (hf : ∀ i, i < n → f i < 2 ^ 64) :
    Calls Try.prog 59 #[.slice A n c] w fun z w' => ∃ r : Int × Bool, z = .returned (.tuple #[.int .i64 r.1, .bool r.2]) ∧ TopIs f n r.1 r.2 ∧ w = w' := by
  have HA := Lib.hid hA
  have HF := Lib.hid hf
  clear hA hf
  go_enter Try.func59, Try.ntmps59
  go_wp2
  go_loopw [4, 5] (fun i b wr => ∃ k : Nat, k ≤ n ∧ i = .int .i64 k ∧ Hid (∀ j, j < k → Fnt (f j)) ∧ Hid (w = wr)) (fun i _ _ => n - (intOf i).toNat)
  case atStart => exact ⟨0, by omega, rfl, Lib.hid (fun j hj => by omega), Lib.hid rfl⟩
  case round =>
    obtain ⟨k, hk, rfl, hall, hw⟩ := hrel
    obtain rfl := hw.out
    by_cases hlt : k < n
    · obtain ⟨b, o, rfl, hc⟩ := HA.out k hlt
      obtain ⟨y, hy⟩ : ∃ y, f k = y := ⟨_, rfl⟩
      have hyl : y < 2 ^ 64 := by rw [← hy]; exact HF.out k hlt
      rw [hy] at hc
      have HY := Lib.hid hy
      have c1 := fun w => finite_any y w hyl
      have HYL := Lib.hid hyl
      clear hy hyl
      obtain ⟨v, hv⟩ : ∃ v, finB y = v := ⟨_, rfl⟩
      rw [hv] at c1
      have C1 := Lib.hid c1
      have HV := Lib.hid hv
      clear c1 hv
      cases v
      · have BAD := Lib.hid (show TopIs f n 0 false from .inl ⟨rfl, rfl, k, hlt, by rw [HY.out]; exact HV.out⟩)
        go_wp2_with fail
        refine (C1.out _).mono ?_
        rintro z w' ⟨rfl, rfl⟩
        go_wp2_with fail
        go_ret2
        exact ⟨(0, false), rfl, BAD.out, rfl⟩
      · go_wp2_with fail
        refine (C1.out _).mono ?_
        rintro z w' ⟨rfl, rfl⟩
        go_wp2_with fail
        refine ⟨⟨k + 1, by omega, by go_num, Lib.hid (fun j hj => ?_), Lib.hid trivial⟩, by simp [intOf]; omega⟩
        rcases (show j < k ∨ j = k by omega) with h | rfl
        · exact hall.out j h
        · rw [HY.out]; exact fnt_of_finB HYL.out HV.out
    · obtain rfl : k = n := by omega
      have HALL := hall
      clear hall HF hw
      go_wp2_with fail
      go_loopw [6, 7, 8, 9] (fun K p a i wr => ∃ E : Nat, E ≤ 2098 ∧ K = .int .i64 ((E : Int) - 1074) ∧ Hid (E = 0 ∨ ∃ i, i < k ∧ 2 ^ (E - 1) ≤ (iv (f i)).natAbs) ∧ Hid (w = wr)) (fun K _ _ _ _ => (1024 - intOf K).toNat)
      case atStart => exact ⟨0, by omega, rfl, Lib.hid (.inl rfl), Lib.hid rfl⟩
      case round =>
        obtain ⟨E, hE, rfl, hlow, hw⟩ := hrel
        obtain rfl := hw.out
        by_cases h98 : E < 2098
        · have hK : (E : Int) - 1074 < 1024 := by omega
          have P1 := Lib.hid (fun w => power_any ((E : Int) - 1074) w (by omega) (by omega))
          go_wp2_with fail
          refine (P1.out _).mono ?_
          rintro z w' ⟨p, rfl, fp, vp, rfl⟩
          have FP := Lib.hid fp
          have VP := Lib.hid vp
          clear fp vp
          go_wp2_with fail
          have VP' : Hid (iv p = ((2 ^ E : Nat) : Int)) := Lib.hid (by rw [VP.out, show ((E : Int) - 1074 + 1074).toNat = E by omega])
          clear VP
          go_loopw [8, 9] (fun a i wr => ∃ (j : Nat) (v : Bool), j ≤ k ∧ i = .int .i64 j ∧ a = .bool v ∧ Hid (v = true ↔ ∀ i, i < j → (iv (f i)).natAbs < 2 ^ E) ∧ Hid (w = wr)) (fun _ i _ => k - (intOf i).toNat)
          case atStart => exact ⟨0, true, by omega, rfl, rfl, Lib.hid ⟨fun _ i hi => by omega, fun _ => rfl⟩, Lib.hid rfl⟩
          case round =>
            obtain ⟨j, v, hj, rfl, rfl, hv, hw⟩ := hrel
            obtain rfl := hw.out
            by_cases hjl : j < k
            · obtain ⟨b, o, rfl, hc⟩ := HA.out j hjl
              have fy := HALL.out j hjl
              obtain ⟨y, hy⟩ : ∃ y, f j = y := ⟨_, rfl⟩
              rw [hy] at hc fy
              have HY := Lib.hid hy
              have hge := ge_bool fy FP.out
              rw [VP'.out] at hge
              obtain ⟨b1, h1⟩ : ∃ b, (FloatKind.f64.format.order y p == some Ordering.gt || FloatKind.f64.format.order y p == some Ordering.eq) = b := ⟨_, rfl⟩
              obtain ⟨b2, h2⟩ : ∃ b, (FloatKind.f64.format.order (fneg y) p == some Ordering.gt || FloatKind.f64.format.order (fneg y) p == some Ordering.eq) = b := ⟨_, rfl⟩
              have hge2 : (b1 || b2) = decide (¬ ((iv y).natAbs : Int) < ((2 ^ E : Nat) : Int)) := by rw [← h1, ← h2]; exact hge
              have step : ∀ v', v' = (v && !(b1 || b2)) → (v' = true ↔ ∀ i, i < j + 1 → (iv (f i)).natAbs < 2 ^ E) := by
                intro v' hv'
                have hlt : (!(b1 || b2)) = true ↔ (iv y).natAbs < 2 ^ E := by
                  rw [hge2]
                  by_cases hP : ((iv y).natAbs : Int) < ((2 ^ E : Nat) : Int)
                  · have e0 : decide (¬ ((iv y).natAbs : Int) < ((2 ^ E : Nat) : Int)) = false := decide_eq_false (fun h => h hP)
                    rw [e0]
                    exact ⟨fun _ => Int.ofNat_lt.1 hP, fun _ => rfl⟩
                  · have e0 : decide (¬ ((iv y).natAbs : Int) < ((2 ^ E : Nat) : Int)) = true := decide_eq_true hP
                    rw [e0]
                    exact ⟨fun h => (by cases h), fun h => absurd (Int.ofNat_lt.2 h) hP⟩
                rw [hv', Bool.and_eq_true, hv.out, hlt]
                constructor
                · rintro ⟨g1, g2⟩ i hi
                  rcases (show i < j ∨ i = j by omega) with g | rfl
                  · exact g1 i g
                  · rw [HY.out]; exact g2
                · intro g
                  exact ⟨fun i hi => g i (by omega), by rw [← HY.out]; exact g j (by omega)⟩
              have STEP := Lib.hid step
              clear step hge hge2 hy fy hv
              cases b1
              · cases b2
                · go_wp2_with (first | simp only [h1, h2] | fail)
                  refine ⟨⟨j + 1, v, by omega, by go_num, rfl, Lib.hid (STEP.out v (by simp)), Lib.hid trivial⟩, by simp [intOf]; omega⟩
                · go_wp2_with (first | simp only [h1, h2] | fail)
                  refine ⟨⟨j + 1, false, by omega, by go_num, rfl, Lib.hid (STEP.out false (by simp)), Lib.hid trivial⟩, by simp [intOf]; omega⟩
              · go_wp2_with (first | simp only [h1, h2] | fail)
                refine ⟨⟨j + 1, false, by omega, by go_num, rfl, Lib.hid (STEP.out false (by simp)), Lib.hid trivial⟩, by simp [intOf]; omega⟩
            · obtain rfl : j = k := by omega
              cases v
              · have hex : ∃ i, i < j ∧ 2 ^ E ≤ (iv (f i)).natAbs := by
                  apply Decidable.byContradiction
                  intro hc
                  have := hv.out.2 (fun i hi => by
                    apply Decidable.byContradiction
                    intro h
                    exact hc ⟨i, hi, by omega⟩)
                  cases this
                have HEX := Lib.hid hex
                clear hex hv
                go_wp2_with fail
                refine ⟨⟨E + 1, by omega, by go_num, Lib.hid (.inr ?_), Lib.hid trivial⟩, by simp [intOf]; omega⟩
                rw [show E + 1 - 1 = E by omega]
                exact HEX.out
              · have GOOD := Lib.hid (show TopIs f j ((E : Int) - 1074) true from .inr ⟨rfl, HALL.out, E, by omega, by omega, hv.out.1 rfl, hlow.out⟩)
                clear hv
                go_wp2_with fail
                go_ret2
                first
                | exact ⟨((E : Int) - 1074, true), rfl, GOOD.out, rfl⟩
                | exact ⟨(E : Int) - 1074, .inr ⟨rfl, GOOD.out, rfl⟩⟩
        · have hE98 : E = 2098 := by omega
          have hall : ∀ i, i < k → (iv (f i)).natAbs < 2 ^ E := by
            intro i hi
            have fx := HALL.out i hi
            obtain ⟨e1, e2, e3, e4, e5⟩ := iv_parts fx
            rw [iv_abs fx]
            obtain ⟨b, hb⟩ : ∃ b, b = 2045 := ⟨_, rfl⟩
            rw [show E = 53 + b by omega]
            exact mul_lt_pow (by omega) (by omega)
          have GOOD := Lib.hid (show TopIs f k 1024 true from .inr ⟨rfl, HALL.out, E, by omega, by omega, hall, hlow.out⟩)
          have hK : ¬ (E : Int) - 1074 < 1024 := by omega
          clear hall hlow
          go_wp2_with fail
          go_ret2
          first
          | exact ⟨(1024, true), rfl, GOOD.out, rfl⟩
          | exact ⟨1024, .inr ⟨rfl, GOOD.out, rfl⟩⟩

end Go.Proofs.Ytnpkblidlmkagaa
