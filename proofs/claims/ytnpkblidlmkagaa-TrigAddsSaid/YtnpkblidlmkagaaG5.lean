/- One round of the series, and all of them: finite, neat, small. -/
import Derived.Test.YtnpkblidlmkagaaG4
set_option linter.unusedSimpArgs false
set_option linter.unusedVariables false
namespace Go.Proofs.Ytnpkblidlmkagaa
open Fl

/-- A number that is finite and neat, its value. -/
structure Ok (a : Nat × Nat) (v : Int) : Prop where
  f1 : Fnt a.1
  f2 : Fnt a.2
  neat : rnd v = iv a.1
  v : iv a.1 + iv a.2 = v

theorem mul4 (a b c d : Int) : a * b * (c * d) = a * c * (b * d) := by
  rw [Int.mul_assoc, Int.mul_left_comm b, ← Int.mul_assoc]

theorem Ok.neat' {a : Nat × Nat} {v : Int} (h : Ok a v) : rnd (iv a.1 + iv a.2) = iv a.1 := by rw [h.v]; exact h.neat

theorem Ok.first {a : Nat × Nat} {v B : Int} (h : Ok a v) (h1 : v ≤ B) (h2 : -B ≤ v) : 9007199254740992 * ((iv a.1).natAbs : Int) ≤ 9007199254740993 * B := by
  have hr := rnd_rel v
  rw [h.neat] at hr
  have e53 : (2 : Int) ^ 53 = 9007199254740992 := by decide
  rw [e53] at hr
  omega

theorem Ok.neg {a : Nat × Nat} {v : Int} (h : Ok a v) : Ok (negP a) (-v) := by
  obtain ⟨f1, v1⟩ := fneg_spec h.f1
  obtain ⟨f2, v2⟩ := fneg_spec h.f2
  have hv := h.v
  refine ⟨f1, f2, ?_, ?_⟩
  · show rnd (-v) = iv (fneg a.1)
    rw [v1, rnd_neg, h.neat]
  · show iv (fneg a.1) + iv (fneg a.2) = -v
    rw [v1, v2]; omega

theorem S_big {S : Int} (hS : S = ((2 ^ U : Nat) : Int)) : 6901746346790563787434755862277025452451108972170386555162524223799296 * 4294967296 ≤ S ∧ 16384 * (16384 * (1099511627776 * S)) ≤ ((2 ^ Bt : Nat) : Int) := by
  have hU := U_eq
  have hBt := Bt_eq
  constructor
  · obtain ⟨m, hm⟩ : ∃ m : Nat, m = 232 := ⟨_, rfl⟩
    have h9 := pow_mono (a := m + 32) (b := U) (by omega)
    have e : (2 : Nat) ^ (m + 32) = 6901746346790563787434755862277025452451108972170386555162524223799296 * 4294967296 := by rw [Nat.pow_add, hm]
    rw [e] at h9
    rw [hS]
    exact Int.ofNat_le.2 h9
  · obtain ⟨m, hm⟩ : ∃ m : Nat, m = 68 := ⟨_, rfl⟩
    have h9 := pow_mono (a := m + U) (b := Bt) (by omega)
    have e : (2 : Nat) ^ m = 16384 * (16384 * 1099511627776) := by rw [hm]
    rw [Nat.pow_add, e] at h9
    rw [hS]
    have := Int.ofNat_le.2 h9
    rw [Int.natCast_mul] at this
    generalize ((2 ^ U : Nat) : Int) = P at *
    omega

/-- The product of two numbers, their values. -/
theorem mul_ok {a b : Nat × Nat} {u v S M A B : Int} (hS : S = ((2 ^ U : Nat) : Int)) (ha : Ok a u) (hb : Ok b v) (u1 : -A ≤ u) (u2 : u ≤ A) (v1 : -B ≤ v) (v2 : v ≤ B)
    (hA0 : 0 ≤ A) (hB0 : 0 ≤ B) (hAS : A ≤ 1099511627776 * S) (hBS : B ≤ 1099511627776 * S) (hM : 4 * (A * B) ≤ 3 * (M * S)) (hM1 : 6901746346790563787434755862277025452451108972170386555162524223799296 ≤ M) (hM2 : M ≤ 4398046511104 * S) :
    ∃ c w, mulF a b = some c ∧ Ok c w ∧ 79228162514264337593543950336 * (w * S - u * v) ≤ M * S ∧ -(M * S) ≤ 79228162514264337593543950336 * (w * S - u * v) := by
  obtain ⟨s1, s2⟩ := S_big hS
  have fa := ha.first u2 u1
  have fb := hb.first v2 v1
  have e61 : ((2 ^ (U + 61) : Nat) : Int) = S * 2305843009213693952 := by rw [Nat.pow_add, Int.natCast_mul, ← hS]; rfl
  have la : (iv a.1).natAbs < 2 ^ (U + 61) := by
    apply Int.ofNat_lt.1
    rw [e61]
    omega
  have lb : (iv b.1).natAbs < 2 ^ (U + 61) := by
    apply Int.ofNat_lt.1
    rw [e61]
    omega
  have hp : ((iv a.1 * iv b.1).natAbs : Int) ≤ M * S := by
    rw [Int.natAbs_mul, Int.natCast_mul]
    have h1 := Int.mul_le_mul fa fb (by omega) (by omega)
    have e1 : 9007199254740992 * ((iv a.1).natAbs : Int) * (9007199254740992 * ((iv b.1).natAbs : Int)) = 81129638414606681695789005144064 * (((iv a.1).natAbs : Int) * ((iv b.1).natAbs : Int)) := by
      rw [mul4]; rfl
    have e2 : 9007199254740993 * A * (9007199254740993 * B) = 81129638414606699710187514626049 * (A * B) := by
      rw [mul4]; rfl
    rw [e1, e2] at h1
    have h2 : 0 ≤ A * B := Int.mul_nonneg hA0 hB0
    omega
  obtain ⟨x, y, h1, fx, fy, vx, _, _, q1, q2⟩ := mulF_abs hS ha.f1 ha.f2 hb.f1 hb.f2 ha.neat' hb.neat' la lb hp (by omega) (by omega)
  rw [ha.v, hb.v] at q1 q2
  exact ⟨(x, y), iv x + iv y, h1, ⟨fx, fy, vx.symm, rfl⟩, q1, q2⟩

/-- The sum of two numbers, their values. -/
theorem add_ok {a b : Nat × Nat} {u v S M : Int} (hS : S = ((2 ^ U : Nat) : Int)) (ha : Ok a u) (hb : Ok b v) (u1 : -M ≤ u) (u2 : u ≤ M) (v1 : -M ≤ v) (v2 : v ≤ M) (hM2 : M ≤ 1099511627776 * S) :
    ∃ c w, addF a b = some c ∧ Ok c w ∧ 79228162514264337593543950336 * (w - (u + v)) ≤ M ∧ -M ≤ 79228162514264337593543950336 * (w - (u + v)) := by
  obtain ⟨s1, s2⟩ := S_big hS
  have fa := ha.first u2 u1
  have fb := hb.first v2 v1
  obtain ⟨x, y, h1, fx, fy, vx, _, _, q1, q2⟩ := addF_spec ha.f1 ha.f2 hb.f1 hb.f2 (M := 2 * M) ha.neat' hb.neat' (by omega) (by omega) (by omega) (by omega) (by omega)
  have e97 : (2 : Int) ^ 97 = 158456325028528675187087900672 := by decide
  have e : iv x + iv y - (iv a.1 + iv a.2 + iv b.1 + iv b.2) = iv x + iv y - (u + v) := by rw [← ha.v, ← hb.v]; omega
  rw [e97, e] at q1 q2
  exact ⟨(x, y), iv x + iv y, h1, ⟨fx, fy, vx.symm, rfl⟩, by omega, by omega⟩

/-- The quotient of a number by a whole number. -/
theorem quo_ok {a : Nat × Nat} {u S M m : Int} (hS : S = ((2 ^ U : Nat) : Int)) (ha : Ok a u) (m1 : 1 ≤ m) (m2 : m ≤ 1099511627776) (u1 : -M ≤ 2 * u) (u2 : 2 * u ≤ M) (hM1 : 6901746346790563787434755862277025452451108972170386555162524223799296 ≤ M) (hM2 : M ≤ 4398046511104 * S) :
    ∃ c w, quoF a (wholeF m, 0) = some c ∧ Ok c w ∧ 9903520314283042199192993792 * (m * w - u) ≤ M ∧ -M ≤ 9903520314283042199192993792 * (m * w - u) := by
  obtain ⟨s1, s2⟩ := S_big hS
  obtain ⟨fw, vw⟩ := whole_spec m (by omega) (by omega) hS
  have e58 : ((2 ^ (U + 58) : Nat) : Int) = S * 288230376151711744 := by rw [Nat.pow_add, Int.natCast_mul, ← hS]; rfl
  have fa := ha.first (B := M) (by omega) (by omega)
  have hr := rnd_rel u
  rw [ha.neat] at hr
  have e53 : (2 : Int) ^ 53 = 9007199254740992 := by decide
  rw [e53] at hr
  obtain ⟨g, k, h1, fg, fk, vg, _, _, q1, q2⟩ := quoF_abs hS ha.f1 ha.f2 ha.neat' fw vw m1 m2 (M := M) (by omega) hM1 (by rw [e58]; omega)
  rw [ha.v, ← Int.mul_add] at q1 q2
  exact ⟨(g, k), iv g + iv k, h1, ⟨fg, fk, vg.symm, rfl⟩, q1, q2⟩

end Go.Proofs.Ytnpkblidlmkagaa
