/- The plain law of the quotient. -/
import Derived.Test.YtnpkblidlmkagaaFl14
set_option linter.unusedSimpArgs false
set_option linter.unusedVariables false
namespace Go.Proofs.Ytnpkblidlmkagaa
open Fl

theorem hdv_of {a c : Nat} (ha : (iv a).natAbs < 2 ^ hiE) (lc : 2 ^ loE ≤ (iv c).natAbs) : 4 * ((iv a).natAbs * 2 ^ U) < (iv c).natAbs * 2 ^ Bt := by
  have hlo := loE_eq
  have hhi := hiE_eq
  have hU := U_eq
  have hBt := Bt_eq
  have l1 : 2 ^ (hiE + 2 + U) ≤ 2 ^ (loE + Bt) := pow_mono (by omega)
  rw [Nat.pow_add, Nat.pow_add 2 hiE, Nat.pow_add 2 loE] at l1
  have l2 := Nat.mul_le_mul_right (2 ^ Bt) lc
  have e : (2 : Nat) ^ 2 = 4 := by decide
  rw [e] at l1
  have l3 : 4 * ((iv a).natAbs * 2 ^ U) < 2 ^ hiE * 4 * 2 ^ U := by
    rw [← Nat.mul_assoc]
    exact Nat.mul_lt_mul_of_pos_right (by omega) (Nat.two_pow_pos U)
  omega

theorem start_near {aS bS zc zd Z κ : Int} (hZ : Z = aS.natAbs) (hb : 9007199254740990 * bS.natAbs ≤ aS.natAbs) (dz : 9007199254740990 * zd.natAbs ≤ zc.natAbs)
    (z1 : 4503599627370496 * (zc - aS) ≤ Z + 2251799813685248 * κ) (z2 : 4503599627370496 * (aS - zc) ≤ Z + 2251799813685248 * κ) (hk : 1298074214633706907132624082305024 * κ ≤ Z) (h0 : 0 ≤ κ) :
    1125899906842624 * (aS + bS - (zc + zd)) ≤ Z ∧ -Z ≤ 1125899906842624 * (aS + bS - (zc + zd)) := by
  have b1 : 9007199254740990 * bS ≤ Z ∧ -Z ≤ 9007199254740990 * bS := by omega
  have c1 : 9007199254740990 * zd ≤ 2 * Z ∧ -(2 * Z) ≤ 9007199254740990 * zd := by
    have : (zc.natAbs : Int) ≤ 2 * Z := by
      clear dz b1 hb
      omega
    omega
  clear hZ hb dz
  constructor <;> omega

/-- The quotient of the first parts is near. -/
theorem quo_start {a b c d : Nat} {S : Int} (hS : S = ((2 ^ U : Nat) : Int)) (ta : Tame a b) (tc : Tame c d) (a0 : iv a ≠ 0) (c0 : iv c ≠ 0) :
    ∃ z, fdiv a c = some z ∧ NearQ a b c d z 0 S 1125899906842624 := by
  have hlo := loE_eq
  have hhi := hiE_eq
  have hU := U_eq
  obtain ⟨la, ha⟩ : 2 ^ loE ≤ (iv a).natAbs ∧ (iv a).natAbs < 2 ^ hiE := by rcases ta.size with ⟨h, _⟩ | h; exact absurd h a0; exact h
  obtain ⟨lc, hc⟩ : 2 ^ loE ≤ (iv c).natAbs ∧ (iv c).natAbs < 2 ^ hiE := by rcases tc.size with ⟨h, _⟩ | h; exact absurd h c0; exact h
  have hSp : 0 < S := by rw [hS]; have := Nat.two_pow_pos U; omega
  have eS : (2 : Int) ^ U = S := by rw [hS]; exact (Int.natCast_pow _ _).symm
  obtain ⟨z, h1, fz, z1, z2⟩ := fdiv_rel ta.fX tc.fX c0 (hdv_of ha lc)
  have e52 : (2 : Int) ^ 52 = 4503599627370496 := by decide
  have e51 : (2 : Int) ^ 51 = 2251799813685248 := by decide
  rw [e52, e51, eS, ← abs_mul_pos hSp] at z1 z2
  have kZ : 1298074214633706907132624082305024 * ((iv c).natAbs : Int) ≤ ((iv a * S).natAbs : Int) := by
    have e110 : (2 : Nat) ^ 110 = 1298074214633706907132624082305024 := by decide
    have l2 := abs_ge_mul la (y := S) (n := U) (by rw [hS]; exact Nat.le_refl _)
    have l3 : 2 ^ 110 * 2 ^ hiE ≤ 2 ^ (loE + U) := by rw [← Nat.pow_add]; exact pow_mono (by omega)
    rw [e110] at l3
    have l5 : (1298074214633706907132624082305024 * (iv c).natAbs : Nat) ≤ (iv a * S).natAbs := by
      generalize 2 ^ hiE = P at *
      generalize 2 ^ (loE + U) = Q at *
      clear z1 z2
      omega
    clear l2 l3 z1 z2
    omega
  have dz := part_le (iv z) tc.second
  have hb := part_le' S ta.second
  obtain ⟨n1, n2⟩ := start_near rfl hb dz z1 z2 kZ (by omega)
  refine ⟨z, h1, fz, fnt_zero, by rw [iv_zero, Int.add_zero]; exact (rep_iv fz).rnd_eq.symm, ?_, ?_⟩
  · rw [iv_zero, Int.add_zero, Int.add_mul, Int.add_mul, Int.mul_comm (iv c), Int.mul_comm (iv d)]; exact n1
  · rw [iv_zero, Int.add_zero, Int.add_mul, Int.add_mul, Int.mul_comm (iv c), Int.mul_comm (iv d)]; exact n2

theorem fdiv_null {a c : Nat} (fa : Fnt a) (fc : Fnt c) (h : iv a = 0) (c0 : iv c ≠ 0) : ∃ z, fdiv a c = some z ∧ Fnt z ∧ iv z = 0 := by
  obtain ⟨z, h1, fz, z1, z2⟩ := fdiv_rel fa fc c0 (by rw [h, Int.natAbs_zero, Nat.zero_mul]; exact Nat.mul_pos (by omega) (Nat.two_pow_pos _))
  refine ⟨z, h1, fz, ?_⟩
  have e52 : (2 : Int) ^ 52 = 4503599627370496 := by decide
  have e51 : (2 : Int) ^ 51 = 2251799813685248 := by decide
  rw [h, e52, e51] at z1 z2
  apply Decidable.byContradiction
  intro hz
  have h9 : (iv z * iv c).natAbs * 2 ≤ (iv c).natAbs := by
    simp at z1 z2
    omega
  rw [Int.natAbs_mul] at h9
  have h10 : 1 * (iv c).natAbs ≤ (iv z).natAbs * (iv c).natAbs := Nat.mul_le_mul_right _ (by omega)
  omega

theorem add_null {a b c d : Nat} (fa : Fnt a) (fb : Fnt b) (fc : Fnt c) (fd : Fnt d) (ha : iv a = 0) (hb : iv b = 0) (hc : iv c = 0) (hd : iv d = 0) :
    ∃ x y, addF (a, b) (c, d) = some (x, y) ∧ Fnt x ∧ Fnt y ∧ iv x = 0 ∧ iv y = 0 := by
  obtain ⟨x, y, h, fx, fy, v, _, _, d1, d2⟩ := addF_spec fa fb fc fd (M := 0) (by rw [ha, hb]; exact rnd_zero) (by rw [hc, hd]; exact rnd_zero) (by omega) (by omega) (by omega) (by omega) (by have := Nat.two_pow_pos Bt; omega)
  rw [ha, hb, hc, hd] at d1 d2
  have e : (2 : Int) ^ 97 = 158456325028528675187087900672 := by decide
  rw [e] at d1 d2
  have hs : iv x + iv y = 0 := by omega
  rw [hs, rnd_zero] at v
  exact ⟨x, y, h, fx, fy, v, by omega⟩

theorem quo_round_null {a b c d e f : Nat} (ta : Tame a b) (tc : Tame c d) (a0 : iv a = 0) (c0 : iv c ≠ 0) (fe : Fnt e) (ff : Fnt f) (he : iv e = 0) (hf : iv f = 0) :
    ∃ g k, quoStep (a, b) (c, d) (e, f) = some (g, k) ∧ Fnt g ∧ Fnt k ∧ iv g = 0 ∧ iv k = 0 := by
  have hU := U_eq
  have b0 : iv b = 0 := by have := ta.second; omega
  obtain ⟨⟨C1, k1, mc, kc1, kc2⟩, _⟩ := tc.makes
  have me := mk_zero fe he 1000
  obtain ⟨p, x, hpr, _, fp, fx, vp, vx⟩ := prodF_spec (j := k1 + 1000 - U) mc me (by omega) (by omega) (by omega) (by omega)
  rw [Int.mul_zero, rnd_zero, Int.zero_mul] at vp
  rw [Int.mul_zero, rnd_zero, Int.sub_zero, Int.zero_mul] at vx
  obtain ⟨x1, x2, hmul, f1, f2, v, _, _, d1, d2⟩ := mulF_spec (P := 0) (Q := 0) (R := 0) (T := 0) (M := 0) tc.fX tc.fY fe ff hpr fp fx (by rw [vp, rnd_zero]) (by rw [vx, rnd_zero]; rfl) (by rw [hf]; simp) (by rw [he]; simp)
    (by omega) (by omega) (by omega) (by omega) (by omega) (by omega) (by omega) (by omega) (by have := Nat.two_pow_pos Bt; omega)
  have e : (2 : Int) ^ 98 = 316912650057057350374175801344 := by decide
  rw [e] at d1 d2
  have hs : iv x1 + iv x2 = 0 := by omega
  rw [hs, rnd_zero] at v
  obtain ⟨fn1, vn1⟩ := fneg_spec f1
  obtain ⟨fn2, vn2⟩ := fneg_spec f2
  obtain ⟨r1, r2, hrest, g1, g2, v1, v2⟩ := add_null ta.fX ta.fY fn1 fn2 a0 b0 (by omega) (by omega)
  obtain ⟨z, hdiv, fz, vz⟩ := fdiv_null g1 tc.fX v1 c0
  obtain ⟨g, k, hadd, fg, fk, vg, vk⟩ := add_null fe ff fz fnt_zero he hf vz iv_zero
  exact ⟨g, k, by simp only [quoStep, restF, hmul, hrest, hdiv, hadd, Option.bind_some], fg, fk, vg, vk⟩

/-- What the law asks of the quotient. -/
structure QuoAt (a b c d e f : Nat) (S : Int) : Prop where
  fe : Fnt e
  ff : Fnt f
  neat : iv e = rnd (iv e + iv f)
  se : Sm (iv e)
  sf : Sm (iv f)
  size : (iv a = 0 ∧ iv e = 0 ∧ iv f = 0) ∨ (iv a ≠ 0 ∧ 2 ^ qloE ≤ (iv e).natAbs ∧ (iv e).natAbs < 2 ^ qhiE)
  n1 : 39614081257132168796771975168 * ((iv a + iv b) * S - (iv c + iv d) * (iv e + iv f)) ≤ ((iv a * S).natAbs : Int)
  n2 : -((iv a * S).natAbs : Int) ≤ 39614081257132168796771975168 * ((iv a + iv b) * S - (iv c + iv d) * (iv e + iv f))

theorem NearQ.weak {a b c d e f : Nat} {S : Int} (h : NearQ a b c d e f S 39614081257132168796771975168) : NearQ a b c d e f S 1125899906842624 := by
  refine ⟨h.fe, h.ff, h.neat, ?_, ?_⟩
  · have h1 := h.n1
    have h2 := h.n2
    generalize (iv a + iv b) * S - (iv c + iv d) * (iv e + iv f) = x at *
    omega
  · have h1 := h.n1
    have h2 := h.n2
    generalize (iv a + iv b) * S - (iv c + iv d) * (iv e + iv f) = x at *
    omega

theorem sm_null {n : Int} (h : n = 0) : Sm n := by rw [h]; unfold Sm; have := Nat.two_pow_pos Bt; simp

/-- The quotient of two tame numbers. -/
theorem quo_spec {a b c d : Nat} {S : Int} (hS : S = ((2 ^ U : Nat) : Int)) (ta : Tame a b) (tc : Tame c d) (c0 : iv c ≠ 0) :
    ∃ Q : Nat → Nat × Nat, fdiv a c = some (Q 0).1 ∧ (Q 0).2 = 0 ∧ (∀ k, k < 2 → quoStep (a, b) (c, d) (Q k) = some (Q (k + 1))) ∧ QuoAt a b c d (Q 2).1 (Q 2).2 S := by
  by_cases a0 : iv a = 0
  · have b0 : iv b = 0 := by have := ta.second; omega
    obtain ⟨z, hdiv, fz, vz⟩ := fdiv_null ta.fX tc.fX a0 c0
    obtain ⟨e, f, h1, fe, ff, ve, vf⟩ := quo_round_null ta tc a0 c0 fz fnt_zero vz iv_zero
    obtain ⟨g, k, h2, fg, fk, vg, vk⟩ := quo_round_null ta tc a0 c0 fe ff ve vf
    refine ⟨fun n => if n = 0 then (z, 0) else if n = 1 then (e, f) else (g, k), hdiv, rfl, ?_, fg, fk, ?_, sm_null vg, sm_null vk, .inl ⟨a0, vg, vk⟩, ?_, ?_⟩
    · intro n hn
      rcases (show n = 0 ∨ n = 1 by omega) with rfl | rfl
      · exact h1
      · exact h2
    · show iv g = rnd (iv g + iv k)
      rw [vg, vk]; exact rnd_zero.symm
    · show _ * ((iv a + iv b) * S - (iv c + iv d) * (iv g + iv k)) ≤ _
      rw [a0, b0, vg, vk]; simp
    · show _ ≤ _ * ((iv a + iv b) * S - (iv c + iv d) * (iv g + iv k))
      rw [a0, b0, vg, vk]; simp
  · obtain ⟨z, hdiv, h0⟩ := quo_start hS ta tc a0 c0
    obtain ⟨e, f, h1, _, _, n1⟩ := quo_round hS ta tc a0 c0 h0
    obtain ⟨g, k, h2, sg, sk, n2⟩ := quo_round hS ta tc a0 c0 n1.weak
    have hsz := quo_size hS ta tc a0 c0 n2.weak
    refine ⟨fun n => if n = 0 then (z, 0) else if n = 1 then (e, f) else (g, k), hdiv, rfl, ?_, n2.fe, n2.ff, n2.neat, sg, sk, .inr ⟨a0, hsz.2.2⟩, n2.n1, n2.n2⟩
    intro n hn
    rcases (show n = 0 ∨ n = 1 by omega) with rfl | rfl
    · exact h1
    · exact h2

end Go.Proofs.Ytnpkblidlmkagaa
