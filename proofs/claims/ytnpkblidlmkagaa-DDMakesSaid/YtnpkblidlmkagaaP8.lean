/- DDMakes: the walk and the plain laws joined. -/
import Derived.Test.YtnpkblidlmkagaaW8
import Derived.Test.YtnpkblidlmkagaaFl4
set_option linter.unusedSimpArgs false
set_option linter.unusedVariables false
namespace Go.Proofs.Ytnpkblidlmkagaa
open Go.RowKit Fl

theorem makes_all (a b : Int) (w : World) (hx : Fnt (partF a (-400) 800)) (hy : Fnt (partF b (-400) 800))
    (lx : (iv (partF a (-400) 800)).natAbs < 2 ^ ((1022 + (-400 : Int)).toNat + 800 + 53)) (ly : (iv (partF b (-400) 800)).natAbs < 2 ^ ((1022 + (-400 : Int)).toNat + 800 + 53)) :
    Calls Try.prog 3 #[.int .i64 a, .int .i64 b] w fun z w' => z = .returned (.bool true) ∧ Below w.heap.size w w' := by
  obtain ⟨x, ex⟩ : ∃ x, partF a (-400) 800 = x := ⟨_, rfl⟩
  obtain ⟨y, ey⟩ : ∃ y, partF b (-400) 800 = y := ⟨_, rfl⟩
  have hk : (1022 + (-400 : Int)).toNat + 800 + 53 = 1475 := by decide
  rw [ex, hk] at lx
  rw [ey, hk] at ly
  rw [ex] at hx
  rw [ey] at hy
  obtain ⟨k, hkk⟩ : ∃ k, k = 1475 := ⟨_, rfl⟩
  rw [← hkk] at lx ly
  have sx := sm_of_lt lx (by omega)
  have sy := sm_of_lt ly (by omega)
  obtain ⟨s, e, h1, fs, fe, vs, ve⟩ := sumF_spec hx hy sx sy
  -- the sizes of the sum and of what it lacks
  have n1 : (iv x + iv y).natAbs < 2 ^ (k + 1) := by rw [Nat.pow_succ]; omega
  have n2 : (iv s).natAbs < 2 ^ (k + 2) := by
    have := rnd_abs (iv x + iv y)
    rw [vs]
    rw [Nat.pow_succ]; omega
  have n3 : (iv e).natAbs < 2 ^ (k + 3) := by
    rw [ve, Nat.pow_succ 2 (k + 2)]
    rw [Nat.pow_succ] at n1
    have : 2 ^ (k + 2) = 4 * 2 ^ k := by rw [Nat.pow_add]; omega
    omega
  have ss := sm_of_lt n2 (by omega)
  have se := sm_of_lt n3 (by omega)
  have n4 : (iv s + iv e).natAbs < 2 ^ Bt := by
    rw [ve, show iv s + (iv x + iv y - iv s) = iv x + iv y from by omega]
    exact Nat.lt_of_lt_of_le n1 (pow_mono (by have := Bt_eq; omega))
  obtain ⟨r, h2, fr, vr⟩ := fadd_spec fs fe n4
  have hrs : iv r = iv s := by rw [vr, ve, show iv s + (iv x + iv y - iv s) = iv x + iv y from by omega, vs]
  obtain ⟨s', m1, fs', vs'⟩ := fmul_one fs ss
  obtain ⟨e', m2, fe', ve'⟩ := fmul_one fe se
  obtain ⟨fx, vx⟩ := fneg_spec hx
  obtain ⟨fy, vy⟩ := fneg_spec hy
  obtain ⟨gs, _⟩ := fneg_spec fs
  obtain ⟨ge, _⟩ := fneg_spec fe
  exact makes_any a b x y s e r s' e' w ex ey h1 fs fe h2 (order_eq fr fs hrs) m1 m2 fs' fe' fx fy (by rw [vs', ve', vx, vy, ve]; omega) (order_eq gs gs rfl) (order_eq ge ge rfl)

end Go.Proofs.Ytnpkblidlmkagaa
