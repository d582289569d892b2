/- One round of the quotient: the contracts laid in. -/
import Derived.Test.YtnpkblidlmkagaaFl13
set_option linter.unusedSimpArgs false
set_option linter.unusedVariables false
namespace Go.Proofs.Ytnpkblidlmkagaa
open Fl

set_option maxHeartbeats 2000000 in
theorem quo_round {a b c d e f : Nat} {S : Int} (hS : S = ((2 ^ U : Nat) : Int)) (ta : Tame a b) (tc : Tame c d) (a0 : iv a ≠ 0) (c0 : iv c ≠ 0) (h : NearQ a b c d e f S 1125899906842624) :
    ∃ g k, quoStep (a, b) (c, d) (e, f) = some (g, k) ∧ Sm (iv g) ∧ Sm (iv k) ∧ NearQ a b c d g k S 39614081257132168796771975168 := by
  obtain ⟨w1, w2, s1, s2⟩ := quo_size hS ta tc a0 c0 h
  have hlo := loE_eq
  have hhi := hiE_eq
  have hU := U_eq
  have hBt := Bt_eq
  have hq1 := qloE_eq
  have hq2 := qhiE_eq
  obtain ⟨la, ha⟩ : 2 ^ loE ≤ (iv a).natAbs ∧ (iv a).natAbs < 2 ^ hiE := by rcases ta.size with ⟨h, _⟩ | h; exact absurd h a0; exact h
  obtain ⟨lc, hc⟩ : 2 ^ loE ≤ (iv c).natAbs ∧ (iv c).natAbs < 2 ^ hiE := by rcases tc.size with ⟨h, _⟩ | h; exact absurd h c0; exact h
  have tb := ta.second
  have td := tc.second
  have tf : 9007199254740990 * (iv f).natAbs ≤ (iv e).natAbs := by
    have := tame_second h.neat.symm
    omega
  have hb := part_le' S tb
  obtain ⟨p1, p2, p3⟩ := parts4 td tf
  have hSp : 0 < S := by rw [hS]; have := Nat.two_pow_pos U; omega
  have eS : (2 : Int) ^ U = S := by rw [hS]; exact (Int.natCast_pow _ _).symm
  obtain ⟨α, hα⟩ : ∃ α : Int, α = ((iv a).natAbs : Int) := ⟨_, rfl⟩
  obtain ⟨κ, hκ⟩ : ∃ κ : Int, κ = ((iv c).natAbs : Int) := ⟨_, rfl⟩
  obtain ⟨ε, hε⟩ : ∃ ε : Int, ε = ((iv e).natAbs : Int) := ⟨_, rfl⟩
  have hZ : ((iv a * S).natAbs : Int) = α * S := by rw [abs_mul_pos hSp, hα]
  have hW : ((iv c * iv e).natAbs : Int) = κ * ε := by rw [Int.natAbs_mul, Int.natCast_mul, hκ, hε]
  -- sizes
  have e110 : (2 : Nat) ^ 110 = 1298074214633706907132624082305024 := by decide
  have α1 : 1298074214633706907132624082305024 ≤ α := by
    have h9 := pow_mono (a := 110) (b := loE) (by omega)
    rw [e110] at h9
    rw [hα]
    omega
  have κ0 : 0 < κ := by have := Nat.two_pow_pos loE; omega
  have sZ : 1298074214633706907132624082305024 * S ≤ α * S := scale_le hSp α1
  have kZ : 1298074214633706907132624082305024 * κ ≤ α * S := by
    have l2 := abs_ge_mul la (y := S) (n := U) (by rw [hS]; exact Nat.le_refl _)
    have l3 : 2 ^ 110 * 2 ^ hiE ≤ 2 ^ (loE + U) := by rw [← Nat.pow_add]; exact pow_mono (by omega)
    rw [e110] at l3
    have l4 : 2 ^ (loE + U) ≤ (iv a * S).natAbs := l2
    have l5 : (1298074214633706907132624082305024 * (iv c).natAbs : Nat) ≤ (iv a * S).natAbs := by
      generalize 2 ^ hiE = P at *
      generalize 2 ^ (loE + U) = Q at *
      omega
    rw [← hZ, hκ]
    clear l2 l3 w1 w2 p1 p2 p3 hb sZ lc la ha hc s1 s2
    omega
  have α2 : 1024 * 64 * α ≤ ((2 ^ Bt : Nat) : Int) := by
    have h9 := pow_mono (a := hiE + 16) (b := Bt) (by omega)
    rw [Nat.pow_add] at h9
    have e : (2 : Nat) ^ 16 = 65536 := by decide
    rw [e] at h9
    rw [hα]
    generalize 2 ^ hiE = P at *
    generalize 2 ^ Bt = Q at *
    omega
  have ε2 : 16384 * ε ≤ ((2 ^ Bt : Nat) : Int) := by
    have h9 := pow_mono (a := qhiE + 14) (b := Bt) (by omega)
    rw [Nat.pow_add] at h9
    have e : (2 : Nat) ^ 14 = 16384 := by decide
    rw [e] at h9
    rw [hε]
    generalize 2 ^ qhiE = P at *
    generalize 2 ^ Bt = Q at *
    omega
  obtain ⟨M, hM1, hM2⟩ := round_M α (by omega)
  obtain ⟨m1, m2⟩ := round_MS hSp hM1 hM2
  have WM : ((iv c * iv e).natAbs : Int) ≤ M * S := by
    rw [hZ] at w1
    clear m1 p1 p2 p3 hb
    omega
  have hM : 16384 * M ≤ ((2 ^ Bt : Nat) : Int) := by
    generalize ((2 ^ Bt : Nat) : Int) = Q at *
    omega
  have hM3 : 1298074214633706907132624082305024 ≤ M := by clear hM α2 ε2; omega
  -- the product
  obtain ⟨⟨C1, k1, mc, kc1, kc2⟩, _⟩ := tc.makes
  obtain ⟨E1, k2, me, ke1, ke2⟩ := mk_of h.fe s1 s2 (by omega)
  have hP := mk_prod mc me (by omega)
  obtain ⟨p, x, hpr, _, fp, fx, vp, vx⟩ := prodF_spec (j := k1 + k2 - U) mc me (by omega) (by omega) (by omega) (by omega)
  obtain ⟨P, eP⟩ : ∃ P, P = C1 * E1 * 2 ^ (k1 + k2 - U) := ⟨_, rfl⟩
  rw [← eP, eS] at hP
  rw [← rnd_scale, ← eP] at vp
  rw [Int.sub_mul, ← rnd_scale, ← eP] at vx
  clear eP
  have pM : (P.natAbs : Int) ≤ M := by
    refine Int.le_of_mul_le_mul_right ?_ hSp
    rw [← abs_mul_pos hSp, ← hP]
    exact WM
  obtain ⟨q1, q2⟩ := two_sided p1 WM
  obtain ⟨q3, q4⟩ := two_sided p2 WM
  obtain ⟨q5, q6⟩ := two_sided2 p3 WM
  have big : (iv c * iv e).natAbs < 2 ^ (Bt + U) := Nat.lt_of_lt_of_le (abs_lt_mul hc s2) (pow_mono (by omega))
  obtain ⟨x1, x2, Nn, hmul, fx1, fx2, vx1, sx1, sx2, L1, L2, e1, e2⟩ := mulF_gen hS tc.fX tc.fY h.fe h.ff hpr fp fx vp vx hP (M := M) (by omega) (by omega) q1 q2 q3 q4 q5 q6
    (by generalize 2 ^ (Bt + U) = Q at *; omega) (by generalize 2 ^ (Bt + U) = Q at *; omega) hM3 hM
  have e97 : (2 : Int) ^ 97 = 158456325028528675187087900672 := by decide
  rw [e97] at e1 e2
  clear q1 q2 q3 q4 q5 q6 p1 p2 p3 pM hP vp vx fp fx hpr mc me
  obtain ⟨n1, n2⟩ := round_N (X := (iv a + iv b) * S) (Bq := (iv c + iv d) * (iv e + iv f)) (aS := iv a * S) (bS := iv b * S) hSp hZ (Int.add_mul _ _ _) hb h.n1 h.n2 sZ L1 L2
  obtain ⟨b1, b2, b3, b4⟩ := round_m vx1 n1 n2 hM2 hM1 α1 e1 e2
  clear n1 n2
  -- what is left
  obtain ⟨fn1, vn1⟩ := fneg_spec fx1
  obtain ⟨fn2, vn2⟩ := fneg_spec fx2
  have αM : α ≤ M := by clear hM; omega
  obtain ⟨r1, r2, hrest, fr1, fr2, vr, sr1, sr2, d1, d2⟩ := addF_spec ta.fX ta.fY fn1 fn2 (M := M) ta.neat (by rw [vn1, vn2, ← Int.neg_add, rnd_neg, ← vx1]) (by omega) (by omega) (by rw [vn1]; omega) (by rw [vn1]; omega) hM
  rw [e97, vn1, vn2] at d1 d2
  have rr := rnd_rel (iv r1 + iv r2)
  rw [← vr] at rr
  have e53 : (2 : Int) ^ 53 = 9007199254740992 := by decide
  rw [e53] at rr
  -- the same, times S
  obtain ⟨X, hX⟩ : ∃ X, X = (iv a + iv b) * S := ⟨_, rfl⟩
  obtain ⟨Bq, hBq⟩ : ∃ X, X = (iv c + iv d) * (iv e + iv f) := ⟨_, rfl⟩
  have hn1 := h.n1
  have hn2 := h.n2
  rw [← hX, ← hBq, hZ] at hn1 hn2
  rw [← hBq] at L1 L2
  have E1 : 158456325028528675187087900672 * ((iv x1 + iv x2) * S - Nn * S) ≤ M * S := by
    have := scale_le hSp e1
    rwa [Int.mul_assoc, Int.sub_mul] at this
  have E2 : -(M * S) ≤ 158456325028528675187087900672 * ((iv x1 + iv x2) * S - Nn * S) := by
    have := scale_le hSp e2
    rwa [Int.mul_assoc, Int.sub_mul, Int.neg_mul] at this
  have ed : iv r1 + iv r2 - (iv a + iv b + -iv x1 + -iv x2) = iv r1 + iv r2 - (iv a + iv b - (iv x1 + iv x2)) := by omega
  rw [ed] at d1 d2
  have D1 : 158456325028528675187087900672 * ((iv r1 + iv r2) * S - (X - (iv x1 + iv x2) * S)) ≤ M * S := by
    have := scale_le hSp d1
    rwa [Int.mul_assoc, Int.sub_mul, Int.sub_mul, ← hX] at this
  have D2 : -(M * S) ≤ 158456325028528675187087900672 * ((iv r1 + iv r2) * S - (X - (iv x1 + iv x2) * S)) := by
    have := scale_le hSp d2
    rwa [Int.mul_assoc, Int.sub_mul, Int.sub_mul, Int.neg_mul, ← hX] at this
  have R1 : 9007199254740992 * (iv r1 * S - (iv r1 + iv r2) * S) ≤ (((iv r1 + iv r2) * S).natAbs : Int) := by
    have := scale_le hSp rr.1
    rw [abs_mul_pos hSp]
    rwa [Int.mul_assoc, Int.sub_mul] at this
  have R2 : 9007199254740992 * ((iv r1 + iv r2) * S - iv r1 * S) ≤ (((iv r1 + iv r2) * S).natAbs : Int) := by
    have := scale_le hSp rr.2
    rw [abs_mul_pos hSp]
    rwa [Int.mul_assoc, Int.sub_mul] at this
  -- the quotient of what is left
  have rb : (iv r1).natAbs ≤ 16 * (iv a).natAbs := by
    have t1 := tame_second ta.neat
    clear E1 E2 D1 D2 R1 R2 L1 L2 hn1 hn2 hM e1 e2 big
    generalize iv x1 + iv x2 = s at *
    clear vx1 vr
    have q : -(8 * α) ≤ iv r1 + iv r2 ∧ iv r1 + iv r2 ≤ 8 * α := by
      clear rr
      generalize iv r1 + iv r2 = y at *
      generalize iv a = a1 at *
      generalize iv b = b1 at *
      clear w1 w2 hZ hb sZ kZ m1 m2
      constructor <;> omega
    clear d1 d2
    generalize iv r1 + iv r2 = y at *
    omega
  have hdv : 4 * ((iv r1).natAbs * 2 ^ U) < (iv c).natAbs * 2 ^ Bt := by
    have l1 : 2 ^ (hiE + 6 + U) ≤ 2 ^ (loE + Bt) := pow_mono (by omega)
    rw [Nat.pow_add, Nat.pow_add 2 hiE, Nat.pow_add 2 loE] at l1
    have l2 := Nat.mul_le_mul_right (2 ^ Bt) lc
    have e : (2 : Nat) ^ 6 = 64 := by decide
    rw [e] at l1
    have l3 : 4 * ((iv r1).natAbs * 2 ^ U) < 2 ^ hiE * 64 * 2 ^ U := by
      rw [← Nat.mul_assoc]
      exact Nat.mul_lt_mul_of_pos_right (by omega) (Nat.two_pow_pos U)
    omega
  obtain ⟨z, hdiv, fz, z1, z2⟩ := fdiv_rel fr1 tc.fX c0 hdv
  have e52 : (2 : Int) ^ 52 = 4503599627370496 := by decide
  have e51 : (2 : Int) ^ 51 = 2251799813685248 := by decide
  rw [e52, e51, eS, ← hκ, ← abs_mul_pos hSp] at z1 z2
  have hg := round_r hn1 hn2 sZ hSp m1 L1 (by omega) E1 E2 D1 D2
  have zW := round_z hg.1 hg.2 R1 R2 z1 z2 kZ (by omega) (by rw [← hZ]; exact w2)
  rw [hW] at zW
  have zε : (iv z).natAbs ≤ (iv e).natAbs := by
    have h9 : (iv z).natAbs * (iv c).natAbs ≤ (iv c).natAbs * (iv e).natAbs := by
      rw [← Int.natAbs_mul]
      rw [hκ, hε, ← Int.natCast_mul] at zW
      exact Int.ofNat_le.1 zW
    rw [Nat.mul_comm (iv c).natAbs] at h9
    exact Nat.le_of_mul_le_mul_right h9 (by omega)
  obtain ⟨g, k, hadd, fg, fk, vg, sg, sk, k1', k2'⟩ := addF_spec h.fe h.ff fz fnt_zero (M := ε) h.neat.symm (by rw [iv_zero, Int.add_zero]; exact (rep_iv fz).rnd_eq) (by omega) (by omega) (by omega) (by omega) ε2
  rw [e97, iv_zero] at k1' k2'
  -- the error of the last sum, times B
  obtain ⟨K, hK⟩ : ∃ K : Int, K = ((iv c + iv d).natAbs : Int) * ε := ⟨_, rfl⟩
  have KW : 9007199254740990 * K ≤ 9007199254740991 * (κ * ε) := by
    have h9 : 9007199254740990 * ((iv c + iv d).natAbs : Int) ≤ 9007199254740991 * κ := by rw [hκ]; omega
    have := Int.mul_le_mul_of_nonneg_right h9 (show 0 ≤ ε by omega)
    rw [Int.mul_assoc, Int.mul_assoc] at this
    rw [hK]; exact this
  obtain ⟨err, herr⟩ : ∃ y, y = iv g + iv k - (iv e + iv f + iv z) := ⟨_, rfl⟩
  have er1 : 158456325028528675187087900672 * err ≤ ε ∧ -ε ≤ 158456325028528675187087900672 * err := by rw [herr]; constructor <;> omega
  have BD : 158456325028528675187087900672 * ((iv c + iv d) * err) ≤ K ∧ -K ≤ 158456325028528675187087900672 * ((iv c + iv d) * err) := by
    have h9 : 158456325028528675187087900672 * err.natAbs ≤ ε.toNat := by omega
    have h10 := Nat.mul_le_mul_left (iv c + iv d).natAbs h9
    have h11 : (158456325028528675187087900672 * ((iv c + iv d) * err).natAbs : Nat) ≤ (iv c + iv d).natAbs * ε.toNat := by
      rw [Int.natAbs_mul, Nat.mul_left_comm]; exact h10
    have h12 : (((iv c + iv d).natAbs * ε.toNat : Nat) : Int) = K := by rw [hK, Int.natCast_mul]; congr 1; omega
    have h13 : 158456325028528675187087900672 * (((iv c + iv d) * err).natAbs : Int) ≤ K := by rw [← h12]; exact Int.ofNat_le.2 h11
    clear h9 h10 h11 h12 hK KW herr er1
    generalize (iv c + iv d) * err = t at *
    constructor <;> omega
  have dz : 9007199254740990 * ((iv z * iv d).natAbs : Int) ≤ ((iv z * iv c).natAbs : Int) := Int.ofNat_le.2 (part_le (iv z) td)
  obtain ⟨gg, hgg⟩ : ∃ g : Int, g = ((X - Bq).natAbs : Int) := ⟨_, rfl⟩
  have al := round_alg (X := X) (Bq := Bq) (n := Nn * S) (m := (iv x1 + iv x2) * S) (R := (iv r1 + iv r2) * S) (r := iv r1 * S) (zc := iv z * iv c) (zd := iv z * iv d) (BD := (iv c + iv d) * err) (M := M * S) (K := K) (S := S) (C := κ) (g := gg) rfl (by omega) (by omega)
    (Int.mul_nonneg (by omega) (by omega)) (by omega) L1 (by omega) E1 E2 D1 D2 (by omega) (by omega) R1 R2 z1 z2 dz BD.1 BD.2
  have fin := round_end al.1 al.2 m1 sZ kZ hSp (by omega) KW (by rw [← hW, ← hZ]; exact w1) (by omega)
  have split := quo_split (iv c) (iv d) (iv e + iv f) (iv z) (iv g + iv k)
  rw [← hBq, ← herr] at split
  rw [← split, ← hZ, hX] at fin
  refine ⟨g, k, ?_, sg, sk, ⟨fg, fk, vg, fin.1, fin.2⟩⟩
  simp only [quoStep, restF, hmul, hrest, hdiv, hadd, Option.bind_some]

end Go.Proofs.Ytnpkblidlmkagaa
