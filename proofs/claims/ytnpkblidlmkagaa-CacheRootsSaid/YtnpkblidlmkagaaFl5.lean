/- What the program's products give: plain laws on words. -/
import Derived.Test.YtnpkblidlmkagaaFl4
set_option linter.unusedSimpArgs false
set_option linter.unusedVariables false
namespace Go.Proofs.Ytnpkblidlmkagaa
open Go.RowKit Fl

/-- The bound of whole numbers that are scaled. -/
theorem sc_lt {n : Int} {j : Nat} (h : n.natAbs ≤ 2 ^ 250) (hj : j ≤ 1800) : (n * 2 ^ j).natAbs < 2 ^ Bt := by
  rw [Int.natAbs_mul, Int.natAbs_pow]
  show n.natAbs * 2 ^ j < 2 ^ Bt
  have h1 : 2 ^ 250 * 2 ^ j < 2 ^ Bt := by
    rw [← Nat.pow_add]
    exact Nat.pow_lt_pow_right (by omega) (by have := Bt_eq; omega)
  exact Nat.lt_of_le_of_lt (Nat.mul_le_mul_right _ h) h1

theorem add_sc {x y : Nat} {a b : Int} {j : Nat} (hx : Fnt x) (hy : Fnt y) (ex : iv x = a * 2 ^ j) (ey : iv y = b * 2 ^ j) (hb : (a + b).natAbs ≤ 2 ^ 250) (hj : j ≤ 1800) :
    ∃ z, fadd x y = some z ∧ Fnt z ∧ iv z = rnd (a + b) * 2 ^ j := by
  have e : iv x + iv y = (a + b) * 2 ^ j := by rw [ex, ey, Int.add_mul]
  obtain ⟨z, h1, h2, h3⟩ := fadd_spec hx hy (by rw [e]; exact sc_lt hb hj)
  exact ⟨z, h1, h2, by rw [h3, e, rnd_scale]⟩

theorem sub_sc {x y : Nat} {a b : Int} {j : Nat} (hx : Fnt x) (hy : Fnt y) (ex : iv x = a * 2 ^ j) (ey : iv y = b * 2 ^ j) (hb : (a - b).natAbs ≤ 2 ^ 250) (hj : j ≤ 1800) :
    ∃ z, fsub x y = some z ∧ Fnt z ∧ iv z = rnd (a - b) * 2 ^ j := by
  have e : iv x - iv y = (a - b) * 2 ^ j := by rw [ex, ey, Int.sub_mul]
  obtain ⟨z, h1, h2, h3⟩ := fsub_spec hx hy (by rw [e]; exact sc_lt hb hj)
  exact ⟨z, h1, h2, by rw [h3, e, rnd_scale]⟩

theorem mul_sc {x y : Nat} {a b : Int} {k l j : Nat} (hx : Fnt x) (hy : Fnt y) (ex : iv x = a * 2 ^ k) (ey : iv y = b * 2 ^ l) (hkl : k + l = j + U) (hb : (a * b).natAbs ≤ 2 ^ 250) (hj : j ≤ 1800) :
    ∃ z, fmul x y = some z ∧ Fnt z ∧ iv z = rnd (a * b) * 2 ^ j := by
  have e : iv x * iv y = (a * b * 2 ^ j) * 2 ^ U := by
    rw [ex, ey, Int.mul_assoc (a * b), ← Int.pow_add, ← hkl, Int.pow_add, Int.mul_assoc, Int.mul_assoc, Int.mul_left_comm (2 ^ k)]
  obtain ⟨z, h1, h2, h3⟩ := fmul_whole hx hy e (sc_lt hb hj)
  exact ⟨z, h1, h2, by rw [h3, rnd_scale]⟩

theorem iv_C : iv 4728779608772575232 = 134217729 * 2 ^ U := by
  have h : iv 4728779608772575232 = Ieee.signed false (134217729 * 2 ^ 25) 1049 := by
    show dv (D.read 4728779608772575232) = _
    have : D.read 4728779608772575232 = .number false (134217729 * 2 ^ 25) (-25) := by decide +kernel
    rw [this]; rfl
  rw [h, signed_eq]
  have e : (2 : Int) ^ U = 2 ^ 25 * 2 ^ 1049 := by rw [U_eq, ← Int.pow_add]
  rw [e]
  simp only [Bool.false_eq_true, if_false, Int.one_mul]
  rw [← Int.mul_assoc]
  congr 1

theorem fnt_C : Fnt 4728779608772575232 := by decide +kernel

theorem splitF_spec {x : Nat} {A : Int} {k : Nat} (hx : Fnt x) (ex : iv x = A * 2 ^ k) (hA : A.natAbs ≤ 2 ^ 53) (hk : k ≤ 1800) :
    ∃ h l, splitF x = some (h, l) ∧ Fnt h ∧ Fnt l ∧ iv h = splitH A * 2 ^ k ∧ iv l = splitL A * 2 ^ k ∧ (splitH A).natAbs ≤ 2 ^ 86 ∧ (splitL A).natAbs ≤ 2 ^ 88 := by
  have hse : ∀ c d h l : Int, c = rnd (134217729 * A) → d = rnd (c - A) → h = rnd (c - d) → l = rnd (A - h) → h = splitH A ∧ l = splitL A := by
    intro c d h l h1 h2 h3 h4
    have : h = splitH A := by unfold splitH; simp only; rw [← h1, ← h2, ← h3]
    refine ⟨this, ?_⟩
    unfold splitL
    rw [← this, ← h4]
  have b0 : (134217729 * A).natAbs ≤ 2 ^ 81 := by omega
  obtain ⟨c, h1, f1, v1⟩ := mul_sc (j := k) fnt_C hx iv_C ex (by omega) (by omega) hk
  obtain ⟨C, hC⟩ : ∃ C, C = rnd (134217729 * A) := ⟨_, rfl⟩
  have b1 := rnd_abs (134217729 * A)
  rw [← hC] at v1 b1
  obtain ⟨d, h2, f2, v2⟩ := sub_sc f1 hx v1 ex (by omega) hk
  obtain ⟨E, hE⟩ : ∃ E, E = rnd (C - A) := ⟨_, rfl⟩
  have b2 := rnd_abs (C - A)
  rw [← hE] at v2 b2
  have c2 : E.natAbs ≤ 2 ^ 84 := by omega
  have c1 : C.natAbs ≤ 2 ^ 82 := by omega
  clear b1 b2 b0
  obtain ⟨h, h3, f3, v3⟩ := sub_sc f1 f2 v1 v2 (by omega) hk
  obtain ⟨H, hH⟩ : ∃ H, H = rnd (C - E) := ⟨_, rfl⟩
  have b3 := rnd_abs (C - E)
  rw [← hH] at v3 b3
  have c3 : H.natAbs ≤ 2 ^ 86 := by omega
  clear b3
  obtain ⟨l, h4, f4, v4⟩ := sub_sc hx f3 ex v3 (by omega) hk
  obtain ⟨L, hL⟩ : ∃ L, L = rnd (A - H) := ⟨_, rfl⟩
  have b4 := rnd_abs (A - H)
  rw [← hL] at v4 b4
  have c4 : L.natAbs ≤ 2 ^ 88 := by omega
  obtain ⟨e1, e2⟩ := hse C E H L hC hE hH hL
  refine ⟨h, l, ?_, f3, f4, by rw [v3, e1], by rw [v4, e2], by rw [← e1]; exact c3, by rw [← e2]; exact c4⟩
  simp only [splitF, h1, h2, h3, h4, Option.bind_some]

theorem natAbs_mul_le {a b : Int} {i j : Nat} (h1 : a.natAbs ≤ 2 ^ i) (h2 : b.natAbs ≤ 2 ^ j) : (a * b).natAbs ≤ 2 ^ (i + j) := by
  rw [Int.natAbs_mul, Nat.pow_add]
  exact Nat.mul_le_mul h1 h2

theorem prodF_chain {x y : Nat} {A B : Int} {k l j : Nat} (hx : Fnt x) (hy : Fnt y) (ex : iv x = A * 2 ^ k) (ey : iv y = B * 2 ^ l) (hA : A.natAbs ≤ 2 ^ 53) (hB : B.natAbs ≤ 2 ^ 53)
    (hkl : k + l = j + U) (hk : k ≤ 1800) (hl : l ≤ 1800) (hj : j ≤ 1800) :
    ∃ p e, prodF x y = some (p, e) ∧ fmul x y = some p ∧ Fnt p ∧ Fnt e ∧ iv p = rnd (A * B) * 2 ^ j ∧ iv e = prodE A B (rnd (A * B)) * 2 ^ j := by
  obtain ⟨p, h0, f0, v0⟩ := mul_sc hx hy ex ey hkl (Nat.le_trans (natAbs_mul_le hA hB) (by decide)) hj
  obtain ⟨a1, a2, ha, g1, g2, w1, w2, n1, n2⟩ := splitF_spec hx ex hA hk
  obtain ⟨b1, b2, hb, g3, g4, w3, w4, n3, n4⟩ := splitF_spec hy ey hB hl
  have hpr : prodE A B (rnd (A * B)) = rnd (rnd (rnd (rnd (rnd (splitH A * splitH B) - rnd (A * B)) + rnd (splitH A * splitL B)) + rnd (splitL A * splitH B)) + rnd (splitL A * splitL B)) := rfl
  rw [hpr]
  clear hpr
  have m0 := natAbs_mul_le hA hB
  have r0 := rnd_abs (A * B)
  generalize rnd (A * B) = P at *
  generalize splitH A = h at *
  generalize splitL A = l' at *
  generalize splitH B = i at *
  generalize splitL B = m at *
  have m1 := natAbs_mul_le n1 n3
  have m2 := natAbs_mul_le n1 n4
  have m3 := natAbs_mul_le n2 n3
  have m4 := natAbs_mul_le n2 n4
  have r1 := rnd_abs (h * i)
  have r2 := rnd_abs (h * m)
  have r3 := rnd_abs (l' * i)
  have r4 := rnd_abs (l' * m)
  obtain ⟨q1, k1, s1, t1⟩ := mul_sc g1 g3 w1 w3 hkl (Nat.le_trans m1 (by decide)) hj
  obtain ⟨q2, k2, s2, t2⟩ := mul_sc g1 g4 w1 w4 hkl (Nat.le_trans m2 (by decide)) hj
  obtain ⟨q3, k3, s3, t3⟩ := mul_sc g2 g3 w2 w3 hkl (Nat.le_trans m3 (by decide)) hj
  obtain ⟨q4, k4, s4, t4⟩ := mul_sc g2 g4 w2 w4 hkl (Nat.le_trans m4 (by decide)) hj
  generalize A * B = AB at *
  generalize h * i = hi at *
  generalize h * m = hm at *
  generalize l' * i = li at *
  generalize l' * m = lm at *
  generalize rnd hi = R1 at *
  generalize rnd hm = R2 at *
  generalize rnd li = R3 at *
  generalize rnd lm = R4 at *
  have z0 : P.natAbs ≤ 2 ^ 107 := by omega
  have z1 : R1.natAbs ≤ 2 ^ 173 := by omega
  have z2 : R2.natAbs ≤ 2 ^ 175 := by omega
  have z3 : R3.natAbs ≤ 2 ^ 175 := by omega
  have z4 : R4.natAbs ≤ 2 ^ 177 := by omega
  clear m0 r0 m1 m2 m3 m4 r1 r2 r3 r4 n1 n2 n3 n4 hA hB
  obtain ⟨e1, k5, s5, t5⟩ := sub_sc s1 f0 t1 v0 (by omega) hj
  have r5 := rnd_abs (R1 - P)
  generalize rnd (R1 - P) = E1 at *
  have z5 : E1.natAbs ≤ 2 ^ 175 := by omega
  clear r5 z1 z0
  obtain ⟨e2, k6, s6, t6⟩ := add_sc s5 s2 t5 t2 (by omega) hj
  have r6 := rnd_abs (E1 + R2)
  generalize rnd (E1 + R2) = E2 at *
  have z6 : E2.natAbs ≤ 2 ^ 178 := by omega
  clear r6 z5 z2
  obtain ⟨e3, k7, s7, t7⟩ := add_sc s6 s3 t6 t3 (by omega) hj
  have r7 := rnd_abs (E2 + R3)
  generalize rnd (E2 + R3) = E3 at *
  have z7 : E3.natAbs ≤ 2 ^ 181 := by omega
  clear r7 z6 z3
  obtain ⟨e4, k8, s8, t8⟩ := add_sc s7 s4 t7 t4 (by omega) hj
  refine ⟨p, e4, ?_, h0, f0, s8, v0, t8⟩
  simp only [prodF, h0, ha, hb, k1, k2, k3, k4, k5, k6, k7, k8, Option.bind_some]

theorem splitH_zero : splitH 0 = 0 := by unfold splitH; simp [rnd_zero]
theorem splitL_zero : splitL 0 = 0 := by unfold splitL; rw [splitH_zero]; simp [rnd_zero]
theorem prodE_zl (B : Int) : prodE 0 B (rnd (0 * B)) = 0 := by
  unfold prodE
  simp [splitH_zero, splitL_zero, rnd_zero]
theorem prodE_zr (A : Int) : prodE A 0 (rnd (A * 0)) = 0 := by
  unfold prodE
  simp [splitH_zero, splitL_zero, rnd_zero]

/-- A float's make: a whole number of 53 bits (its leading one set, or nought) times a power of two. -/
structure Mk (x : Nat) (A : Int) (k : Nat) : Prop where
  f : Fnt x
  e : iv x = A * 2 ^ k
  n : A = 0 ∨ 2 ^ 52 ≤ A.natAbs
  lt : A.natAbs < 2 ^ 53

theorem prodF_spec {x y : Nat} {A B : Int} {k l j : Nat} (hx : Mk x A k) (hy : Mk y B l) (hkl : k + l = j + U) (hk : k ≤ 1800) (hl : l ≤ 1800) (hj : j ≤ 1800) :
    ∃ p e, prodF x y = some (p, e) ∧ fmul x y = some p ∧ Fnt p ∧ Fnt e ∧ iv p = rnd (A * B) * 2 ^ j ∧ iv e = (A * B - rnd (A * B)) * 2 ^ j := by
  obtain ⟨p, e, h1, h2, h3, h4, h5, h6⟩ := prodF_chain hx.f hy.f hx.e hy.e (Nat.le_of_lt hx.lt) (Nat.le_of_lt hy.lt) hkl hk hl hj
  refine ⟨p, e, h1, h2, h3, h4, h5, ?_⟩
  rw [h6]
  congr 1
  rcases hx.n with ha | ha
  · subst ha
    rw [prodE_zl]; simp [rnd_zero]
  · rcases hy.n with hb | hb
    · subst hb
      rw [prodE_zr]; simp [rnd_zero]
    · exact dekker A B ha hx.lt hb hy.lt

/-- The mild floats that the laws make. -/
theorem mildF_spec (b : Int) : ∃ (A : Int) (k : Nat), Mk (mildF b) A k ∧ 622 ≤ k ∧ k < 1422 := by
  unfold mildF
  simp only
  have hu : (b % 18446744073709551616).toNat < 2 ^ 64 := by omega
  generalize (b % 18446744073709551616).toNat = u at *
  split
  · rename_i h0
    refine ⟨0, 622, ⟨⟨hu, by rw [h0]; decide⟩, ?_, .inl rfl, by decide⟩, by omega, by omega⟩
    have : u = 0 ∨ u = 2 ^ 63 := by omega
    rcases this with rfl | rfl
    · rw [iv_zero, Int.zero_mul]
    · have : iv (2 ^ 63) = 0 := by decide +kernel
      rw [this, Int.zero_mul]
  · have hf : u / 2 ^ 52 % 2048 % 800 < 800 := Nat.mod_lt _ (by omega)
    generalize u / 2 ^ 52 % 2048 % 800 = f at *
    obtain ⟨h1, h2⟩ := mkw_spec u (f + 623) hu (by omega) (by omega)
    refine ⟨(if u / 2 ^ 63 = 1 then -1 else 1) * ((2 ^ 52 + u % 2 ^ 52 : Nat) : Int), f + 623 - 1, ⟨h1, h2, ?_, ?_⟩, by omega, by omega⟩
    · right
      rw [Int.natAbs_mul]
      split <;> simp <;> omega
    · rw [Int.natAbs_mul]
      split <;> simp <;> omega

theorem Mk.sm {x : Nat} {A : Int} {k : Nat} (h : Mk x A k) (hk : k ≤ 2000) : Sm (iv x) := by
  refine sm_of_lt (k := 53 + k) ?_ (by omega)
  rw [h.e, Int.natAbs_mul, Int.natAbs_pow, Nat.pow_add]
  exact Nat.mul_lt_mul_of_pos_right h.lt (Nat.two_pow_pos _)

end Go.Proofs.Ytnpkblidlmkagaa
