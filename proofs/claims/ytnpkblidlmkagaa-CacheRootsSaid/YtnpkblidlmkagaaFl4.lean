/- What the program's sums give: plain laws on words. -/
import Derived.Test.YtnpkblidlmkagaaW7
set_option linter.unusedSimpArgs false
set_option linter.unusedVariables false
namespace Go.Proofs.Ytnpkblidlmkagaa
open Go.RowKit Fl

theorem rnd_abs (n : Int) : (rnd n).natAbs ≤ 2 * n.natAbs := by
  have := rnd_rel n
  omega

/-- A float that is not too great. -/
def Sm (n : Int) : Prop := 1024 * n.natAbs ≤ 2 ^ Bt

theorem rnd_bd {n K : Int} (h1 : -K ≤ n) (h2 : n ≤ K) : -(2 * K) ≤ rnd n ∧ rnd n ≤ 2 * K := by
  have := rnd_abs n
  omega

theorem fadd_bd {x y : Nat} {K : Int} (hx : Fnt x) (hy : Fnt y) (h1 : -K ≤ iv x + iv y) (h2 : iv x + iv y ≤ K) (hK : K < ((2 ^ Bt : Nat) : Int)) :
    ∃ z, fadd x y = some z ∧ Fnt z ∧ iv z = rnd (iv x + iv y) ∧ -(2 * K) ≤ iv z ∧ iv z ≤ 2 * K := by
  obtain ⟨z, h3, h4, h5⟩ := fadd_spec hx hy (by omega)
  have := rnd_bd h1 h2
  exact ⟨z, h3, h4, h5, by omega, by omega⟩

theorem fsub_bd {x y : Nat} {K : Int} (hx : Fnt x) (hy : Fnt y) (h1 : -K ≤ iv x - iv y) (h2 : iv x - iv y ≤ K) (hK : K < ((2 ^ Bt : Nat) : Int)) :
    ∃ z, fsub x y = some z ∧ Fnt z ∧ iv z = rnd (iv x - iv y) ∧ -(2 * K) ≤ iv z ∧ iv z ≤ 2 * K := by
  obtain ⟨z, h3, h4, h5⟩ := fsub_spec hx hy (by omega)
  have := rnd_bd h1 h2
  exact ⟨z, h3, h4, h5, by omega, by omega⟩

theorem sumF_spec {x y : Nat} (hx : Fnt x) (hy : Fnt y) (sx : Sm (iv x)) (sy : Sm (iv y)) :
    ∃ s e, sumF x y = some (s, e) ∧ Fnt s ∧ Fnt e ∧ iv s = rnd (iv x + iv y) ∧ iv e = iv x + iv y - iv s := by
  have hp := Nat.two_pow_pos Bt
  obtain ⟨M, hM⟩ : ∃ M : Int, M = ((2 ^ Bt / 1024 : Nat) : Int) := ⟨_, rfl⟩
  have hM0 : 0 ≤ M := by omega
  have hM1 : 1024 * M ≤ ((2 ^ Bt : Nat) : Int) := by omega
  have x1 : -M ≤ iv x ∧ iv x ≤ M := by unfold Sm at sx; omega
  have y1 : -M ≤ iv y ∧ iv y ≤ M := by unfold Sm at sy; omega
  clear hM sx sy
  have hT : (1 : Int) ≤ ((2 ^ Bt : Nat) : Int) := by omega
  clear hp
  generalize hTT : ((2 ^ Bt : Nat) : Int) = T at *
  have hts : sumE (iv x) (iv y) = iv x + iv y - rnd (iv x + iv y) := two_sum (rep_iv hx) (rep_iv hy)
  have hse : ∀ s t u f d : Int, s = rnd (iv x + iv y) → t = rnd (s - iv x) → u = rnd (s - t) → f = rnd (iv x - u) → d = rnd (iv y - t) → rnd (f + d) = sumE (iv x) (iv y) := by
    intro s t u f d h1 h2 h3 h4 h5
    unfold sumE
    simp only
    rw [← h1, ← h2, ← h3, ← h4, ← h5]
  obtain ⟨s, h1, f1, v1, p1, q1⟩ := fadd_bd (K := 2 * M) hx hy (by omega) (by omega) (by rw [hTT]; omega)
  obtain ⟨t, h2, f2, v2, p2, q2⟩ := fsub_bd (K := 5 * M) f1 hx (by omega) (by omega) (by rw [hTT]; omega)
  obtain ⟨u, h3, f3, v3, p3, q3⟩ := fsub_bd (K := 14 * M) f1 f2 (by omega) (by omega) (by rw [hTT]; omega)
  obtain ⟨f, h4, f4, v4, p4, q4⟩ := fsub_bd (K := 29 * M) hx f3 (by omega) (by omega) (by rw [hTT]; omega)
  obtain ⟨d, h5, f5, v5, p5, q5⟩ := fsub_bd (K := 11 * M) hy f2 (by omega) (by omega) (by rw [hTT]; omega)
  obtain ⟨e, h6, f6, v6, p6, q6⟩ := fadd_bd (K := 80 * M) f4 f5 (by omega) (by omega) (by rw [hTT]; omega)
  rw [hse _ _ _ _ _ v1 v2 v3 v4 v5, hts, ← v1] at v6
  refine ⟨s, e, ?_, f1, f6, v1, v6⟩
  simp only [sumF, h1, h2, h3, h4, h5, h6, Option.bind_some]

theorem xor63 (x : Nat) (hx : x < 2 ^ 64) : x ^^^ 2 ^ 63 = if x < 2 ^ 63 then x + 2 ^ 63 else x - 2 ^ 63 := by
  have key : ∀ y : Nat, y < 2 ^ 63 → y ^^^ 2 ^ 63 = 2 ^ 63 + y := by
    intro y hy
    apply Nat.eq_of_testBit_eq
    intro i
    rw [Nat.testBit_xor, Nat.testBit_two_pow]
    rcases Nat.lt_trichotomy i 63 with h | h | h
    · rw [Nat.testBit_two_pow_add_gt h]
      have : ¬ 63 = i := by omega
      simp [this]
    · subst h
      rw [Nat.testBit_two_pow_add_eq]
      simp
    · have h1 : y.testBit i = false := Nat.testBit_lt_two_pow (Nat.lt_of_lt_of_le hy (Nat.pow_le_pow_right (by omega) (by omega)))
      have h2 : (2 ^ 63 + y).testBit i = false := Nat.testBit_lt_two_pow (Nat.lt_of_lt_of_le (show 2 ^ 63 + y < 2 ^ 64 by omega) (Nat.pow_le_pow_right (by omega) (by omega)))
      have : ¬ 63 = i := by omega
      rw [h1, h2]
      simp [this]
  split
  · rename_i h
    rw [key x h]; omega
  · rename_i h
    have h1 : x = (x - 2 ^ 63) ^^^ 2 ^ 63 := by rw [key _ (by omega)]; omega
    have : x ^^^ 2 ^ 63 = (x - 2 ^ 63) ^^^ 2 ^ 63 ^^^ 2 ^ 63 := by rw [← h1]
    rw [this, Nat.xor_assoc, Nat.xor_self, Nat.xor_zero]

theorem fneg_eq (x : Nat) : fneg x = x ^^^ 2 ^ 63 := rfl

theorem fneg_spec {x : Nat} (hx : Fnt x) : Fnt (fneg x) ∧ iv (fneg x) = - iv x := by
  have h1 := hx.1
  have h2 := hx.2
  rw [fneg_eq, xor63 x h1]
  have hm : (if x < 2 ^ 63 then x + 2 ^ 63 else x - 2 ^ 63) % 2 ^ 63 = x % 2 ^ 63 := by split <;> omega
  have hs : ((if x < 2 ^ 63 then x + 2 ^ 63 else x - 2 ^ 63) / 2 ^ 63 % 2 == 1) = !(x / 2 ^ 63 % 2 == 1) := by
    split
    · rw [show (x + 2 ^ 63) / 2 ^ 63 = 1 from by omega, show x / 2 ^ 63 = 0 from by omega]; rfl
    · rw [show (x - 2 ^ 63) / 2 ^ 63 = 0 from by omega, show x / 2 ^ 63 = 1 from by omega]; rfl
  have hl : (if x < 2 ^ 63 then x + 2 ^ 63 else x - 2 ^ 63) < 2 ^ 64 := by split <;> omega
  refine ⟨⟨hl, by rw [hm]; exact h2⟩, ?_⟩
  generalize (if x < 2 ^ 63 then x + 2 ^ 63 else x - 2 ^ 63) = y at *
  unfold iv Ieee.Format.read
  rw [D_least, D_binade, D_sign, D_inf, hm, hs]
  simp only
  split
  · simp only [dv]; rw [signed_not]
  · simp only [dv]; rw [signed_not]

theorem iv_one : iv 4607182418800017408 = 2 ^ U := by
  have h : iv 4607182418800017408 = Ieee.signed false (2 ^ 52) 1022 := by
    show dv (D.read 4607182418800017408) = _
    have : D.read 4607182418800017408 = .number false (2 ^ 52) (-52) := by decide +kernel
    rw [this]; rfl
  rw [h, signed_eq]
  have e : (2 : Int) ^ U = 2 ^ 52 * 2 ^ 1022 := by rw [U_eq, ← Int.pow_add]
  rw [e]
  simp only [Bool.false_eq_true, if_false, Int.one_mul]
  congr 1

theorem fnt_one : Fnt 4607182418800017408 := by decide +kernel

/-- 1 times a float. -/
theorem fmul_one {x : Nat} (hx : Fnt x) (sx : Sm (iv x)) : ∃ z, fmul 4607182418800017408 x = some z ∧ Fnt z ∧ iv z = iv x := by
  have hp := Nat.two_pow_pos Bt
  unfold Sm at sx
  obtain ⟨z, h1, h2, h3⟩ := fmul_whole fnt_one hx (p := iv x) (by rw [iv_one, Int.mul_comm]) (by omega)
  exact ⟨z, h1, h2, by rw [h3, (rep_iv hx).rnd_eq]⟩

theorem order_eq {x y : Nat} (hx : Fnt x) (hy : Fnt y) (h : iv x = iv y) : (D.order x y == some .eq) = true := by
  rw [order_spec hx hy, h]
  simp

theorem pow_mono {a b : Nat} (h : a ≤ b) : (2 : Nat) ^ a ≤ 2 ^ b := Nat.pow_le_pow_right (by omega) h

/-- What 'part' makes: nought, or a float with its leading bit in its range. -/
theorem partF_spec (b L : Int) (W : Nat) (hW : 1 ≤ W) (hW2 : W ≤ 900) (hL : -500 ≤ L) (hL2 : L ≤ 0) :
    Fnt (partF b L W) ∧ (partF b L W = 0 ∨ ∃ (g : Int) (m k : Nat), (g = 1 ∨ g = -1) ∧ iv (partF b L W) = g * (m : Int) * 2 ^ k ∧ 2 ^ 52 ≤ m ∧ m < 2 ^ 53 ∧ (1022 + L).toNat ≤ k ∧ k < (1022 + L).toNat + W) := by
  unfold partF
  simp only
  split
  · exact ⟨by decide +kernel, .inl rfl⟩
  · have hu : (b % 18446744073709551616).toNat < 2 ^ 64 := by omega
    generalize (b % 18446744073709551616).toNat = u at *
    have hf : u / 2 ^ 52 % 2048 % W < W := Nat.mod_lt _ (by omega)
    generalize u / 2 ^ 52 % 2048 % W = f at *
    obtain ⟨h1, h2⟩ := mkw_spec u (f + (1023 + L).toNat) hu (by omega) (by omega)
    refine ⟨h1, .inr ⟨if u / 2 ^ 63 = 1 then -1 else 1, 2 ^ 52 + u % 2 ^ 52, f + (1023 + L).toNat - 1, ?_, h2, by omega, by omega, by omega, by omega⟩⟩
    split
    · exact .inr rfl
    · exact .inl rfl

theorem iv_zero : iv 0 = 0 := by decide +kernel

theorem sm_of_lt {n : Int} {k : Nat} (h : n.natAbs < 2 ^ k) (hk : k ≤ 2087) : Sm n := by
  unfold Sm
  have h1 : 2 ^ k ≤ 2 ^ (Bt - 10) := pow_mono (by have := Bt_eq; omega)
  have h2 : 2 ^ Bt = 2 ^ (Bt - 10) * 1024 := by rw [show (1024 : Nat) = 2 ^ 10 from rfl, ← Nat.pow_add]; congr 1; have := Bt_eq; omega
  omega

theorem natAbs_sm (g : Int) (m k : Nat) (hg : g = 1 ∨ g = -1) : (g * (m : Int) * 2 ^ k).natAbs = m * 2 ^ k := by
  rw [Int.natAbs_mul, Int.natAbs_mul, Int.natAbs_pow]
  rcases hg with rfl | rfl <;> simp

theorem partF_lt (b L : Int) (W : Nat) (hW : 1 ≤ W) (hW2 : W ≤ 900) (hL : -500 ≤ L) (hL2 : L ≤ 0) : (iv (partF b L W)).natAbs < 2 ^ ((1022 + L).toNat + W + 53) := by
  obtain ⟨h1, h2 | ⟨g, m, k, hg, h2, h3, h4, h5, h6⟩⟩ := partF_spec b L W hW hW2 hL hL2
  · rw [h2, iv_zero]; exact Nat.two_pow_pos _
  · rw [h2, natAbs_sm _ _ _ hg, show (1022 + L).toNat + W + 53 = 53 + ((1022 + L).toNat + W) from by omega, Nat.pow_add]
    exact Nat.mul_lt_mul'' h4 (Nat.pow_lt_pow_right (by omega) h6)

theorem partF_sm (b L : Int) (W : Nat) (hW : 1 ≤ W) (hW2 : W ≤ 900) (hL : -500 ≤ L) (hL2 : L ≤ 0) : Sm (iv (partF b L W)) :=
  sm_of_lt (partF_lt b L W hW hW2 hL hL2) (by omega)

theorem sm_rnd {n : Int} (h : 2048 * n.natAbs ≤ 2 ^ Bt) : Sm (rnd n) := by
  have := rnd_abs n
  unfold Sm
  omega

end Go.Proofs.Ytnpkblidlmkagaa
