/- Quotients by whole numbers: near up to an absolute error. -/
import Derived.Test.YtnpkblidlmkagaaG2
set_option linter.unusedSimpArgs false
set_option linter.unusedVariables false
namespace Go.Proofs.Ytnpkblidlmkagaa
open Fl

/-- A quotient q of A by the whole number m, near up to 2^-50 of M. -/
structure NearW (a b e f : Nat) (m M : Int) : Prop where
  fe : Fnt e
  ff : Fnt f
  neat : iv e = rnd (iv e + iv f)
  n1 : 1125899906842624 * (m * iv e + m * iv f - (iv a + iv b)) ≤ M
  n2 : -M ≤ 1125899906842624 * (m * iv e + m * iv f - (iv a + iv b))

theorem big_M {M : Int} (h : M < ((2 ^ (U + 58) : Nat) : Int)) : 16384 * (16384 * M) ≤ ((2 ^ Bt : Nat) : Int) := by
  have hU := U_eq
  have hBt := Bt_eq
  obtain ⟨j, hj⟩ : ∃ j : Nat, j = 28 := ⟨_, rfl⟩
  have h9 : 2 ^ (U + 58) * 2 ^ j ≤ 2 ^ Bt := by rw [← Nat.pow_add]; exact pow_mono (by omega)
  have e : (2 : Nat) ^ j = 268435456 := by rw [hj]
  rw [e] at h9
  have h10 : (((2 ^ (U + 58) : Nat) : Int)) * 268435456 ≤ ((2 ^ Bt : Nat) : Int) := Int.ofNat_le.2 h9
  generalize ((2 ^ (U + 58) : Nat) : Int) = P at *
  generalize ((2 ^ Bt : Nat) : Int) = Q at *
  omega

theorem lt_61 {n : Int} {M : Int} (h : M < ((2 ^ (U + 58) : Nat) : Int)) (h1 : (n.natAbs : Int) ≤ 4 * M) : n.natAbs < 2 ^ (U + 61) := by
  have e : 2 ^ (U + 61) = 2 ^ (U + 58) * 8 := by rw [show U + 61 = (U + 58) + 3 by omega, Nat.pow_add]
  rw [e]
  generalize 2 ^ (U + 58) = P at *
  omega

theorem near_first {me mf A M : Int} (hf : 9007199254740990 * mf.natAbs ≤ me.natAbs) (hA : A ≤ 2 * M ∧ -(2 * M) ≤ A) (n1 : 1125899906842624 * (me + mf - A) ≤ M) (n2 : -M ≤ 1125899906842624 * (me + mf - A)) (hM : 1 ≤ M) : (me.natAbs : Int) ≤ 3 * M := by
  have h1 : 9007199254740990 * mf ≤ me.natAbs ∧ -(me.natAbs : Int) ≤ 9007199254740990 * mf := by omega
  have h2 : (me = (me.natAbs : Int) ∨ me = -(me.natAbs : Int)) := by omega
  clear hf
  generalize ((me.natAbs : Nat) : Int) = u at *
  rcases h2 with rfl | rfl <;> omega

/-- The error of a round. w = x + y, R what is left, G the new quotient times m. -/
theorem round_w {A me mf w R r zm G M m : Int} (hM : 6901746346790563787434755862277025452451108972170386555162524223799296 ≤ M) (m0 : 0 ≤ m) (hm : m ≤ 1099511627776)
    (n1 : 1125899906842624 * (me + mf - A) ≤ M) (n2 : -M ≤ 1125899906842624 * (me + mf - A))
    (x1 : 79228162514264337593543950336 * (w - (me + mf)) ≤ 3 * M) (x2 : -(3 * M) ≤ 79228162514264337593543950336 * (w - (me + mf)))
    (d1 : 158456325028528675187087900672 * (R - (A - w)) ≤ 3 * M) (d2 : -(3 * M) ≤ 158456325028528675187087900672 * (R - (A - w)))
    (r1 : 9007199254740992 * (r - R) ≤ R.natAbs) (r2 : 9007199254740992 * (R - r) ≤ R.natAbs)
    (z1 : 4503599627370496 * (zm - r) ≤ r.natAbs + 2251799813685248 * m) (z2 : 4503599627370496 * (r - zm) ≤ r.natAbs + 2251799813685248 * m)
    (g1 : 158456325028528675187087900672 * (G - (me + mf + zm)) ≤ 3 * M) (g2 : -(3 * M) ≤ 158456325028528675187087900672 * (G - (me + mf + zm))) :
    9903520314283042199192993792 * (G - A) ≤ M ∧ -M ≤ 9903520314283042199192993792 * (G - A) := by
  have a1 : 562949953421312 * R ≤ M ∧ -M ≤ 562949953421312 * R := by
    clear r1 r2 z1 z2 g1 g2
    constructor <;> omega
  obtain ⟨u, hu⟩ : ∃ u : Int, u = R.natAbs := ⟨_, rfl⟩
  have u1 : 562949953421312 * u ≤ M := by clear r1 r2 z1 z2 g1 g2 x1 x2 d1 d2 n1 n2; omega
  rw [← hu] at r1 r2
  clear hu
  obtain ⟨v, hv⟩ : ∃ v : Int, v = r.natAbs := ⟨_, rfl⟩
  have v1 : 281474976710656 * v ≤ M := by clear z1 z2 g1 g2 x1 x2 d1 d2 n1 n2; omega
  rw [← hv] at z1 z2
  clear hv a1
  -- what each step lacks
  have b1 : 9903520314283042199192993792 * 512 * (r - R) ≤ M ∧ -M ≤ 9903520314283042199192993792 * 512 * (r - R) := by
    clear z1 z2 g1 g2 x1 x2 d1 d2 n1 n2 v1
    constructor <;> omega
  have b2 : 9903520314283042199192993792 * 64 * (zm - r) ≤ M ∧ -M ≤ 9903520314283042199192993792 * 64 * (zm - r) := by
    clear r1 r2 g1 g2 x1 x2 d1 d2 n1 n2 u1 b1
    constructor <;> omega
  clear r1 r2 z1 z2 u1 v1 n1 n2 hm m0
  have e : G - A = (G - (me + mf + zm)) + (zm - r) + (r - R) + (R - (A - w)) - (w - (me + mf)) := by omega
  rw [e]
  clear e
  generalize G - (me + mf + zm) = t1 at *
  generalize zm - r = t2 at *
  generalize r - R = t3 at *
  generalize R - (A - w) = t4 at *
  generalize w - (me + mf) = t5 at *
  constructor <;> omega

theorem whole_div {z m c S : Int} (hS : 0 < S) (hc : c = m * S) : z * c = (m * z) * S := by
  rw [hc, ← Int.mul_assoc, Int.mul_comm z m]

set_option maxHeartbeats 1000000 in
theorem quo_roundW {a b c e f : Nat} {m M S : Int} (hS : S = ((2 ^ U : Nat) : Int)) (fa : Fnt a) (fb : Fnt b) (na : rnd (iv a + iv b) = iv a) (fc : Fnt c) (hc : iv c = m * S) (m1 : 1 ≤ m) (m2 : m ≤ 1099511627776)
    (la : ((iv a).natAbs : Int) ≤ M) (hM1 : 6901746346790563787434755862277025452451108972170386555162524223799296 ≤ M) (hM2 : M < ((2 ^ (U + 58) : Nat) : Int)) (h : NearW a b e f m M) :
    ∃ g k, quoStep (a, b) (c, 0) (e, f) = some (g, k) ∧ Fnt g ∧ Fnt k ∧ iv g = rnd (iv g + iv k) ∧ Sm (iv g) ∧ Sm (iv k) ∧ 9903520314283042199192993792 * (m * iv g + m * iv k - (iv a + iv b)) ≤ M ∧ -M ≤ 9903520314283042199192993792 * (m * iv g + m * iv k - (iv a + iv b)) := by
  have hBt := Bt_eq
  have hU := U_eq
  have hSp : 0 < S := by rw [hS]; have := Nat.two_pow_pos U; omega
  have eS : (2 : Int) ^ U = S := by rw [hS]; exact (Int.natCast_pow _ _).symm
  have hbig := big_M hM2
  have tb := tame_second na
  have hA : iv a + iv b ≤ 2 * M ∧ -(2 * M) ≤ iv a + iv b := by clear hbig hM2; omega
  have tf : 9007199254740990 * (iv f).natAbs ≤ (iv e).natAbs := by have := tame_second h.neat.symm; omega
  have tmf := part_le m tf
  have me3 := near_first tmf hA h.n1 h.n2 (by omega)
  have le1 : ((iv e).natAbs : Int) ≤ ((m * iv e).natAbs : Int) := by
    rw [Int.natAbs_mul, Int.natCast_mul]
    have : (1 : Int) * ((iv e).natAbs : Int) ≤ (m.natAbs : Int) * ((iv e).natAbs : Int) := Int.mul_le_mul_of_nonneg_right (by omega) (by omega)
    omega
  have cS : ((iv c).natAbs : Int) = m * S := by rw [hc, Int.natAbs_mul, Int.natCast_mul]; congr 1 <;> omega
  have lc : (iv c).natAbs < 2 ^ (U + 61) := by
    have h9 : m * S ≤ 1099511627776 * S := scale_le hSp m2
    have h10 : 2 ^ (U + 61) = 2 ^ U * 2305843009213693952 := by rw [Nat.pow_add]
    rw [h10]
    rw [hS] at h9 cS
    omega
  have le2 : (iv e).natAbs < 2 ^ (U + 61) := lt_61 hM2 (by omega)
  have ce : iv c * iv e = (m * iv e) * S := by rw [Int.mul_comm]; exact whole_div hSp hc
  have cf : iv c * iv f = (m * iv f) * S := by rw [Int.mul_comm]; exact whole_div hSp hc
  have lce : ((iv c * iv e).natAbs : Int) ≤ (3 * M) * S := by
    rw [ce, abs_mul_pos hSp]
    exact scale_le hSp me3
  obtain ⟨x1, x2, hmul, fx1, fx2, vx1, _, _, p1, p2⟩ := mulF_abs (M := 3 * M) hS fc fnt_zero h.fe h.ff (by rw [iv_zero, Int.add_zero]; exact (rep_iv fc).rnd_eq) h.neat.symm lc le2 lce (by omega) (by omega)
  rw [iv_zero, Int.add_zero, Int.mul_add, ce, cf, ← Int.add_mul, ← Int.sub_mul, ← Int.mul_assoc] at p1 p2
  rw [← Int.neg_mul] at p2
  have q1 := Int.le_of_mul_le_mul_right p1 hSp
  have q2 := Int.le_of_mul_le_mul_right p2 hSp
  clear p1 p2 ce cf lce le2 lc
  -- the product's first part
  have w1 : iv x1 + iv x2 - (m * iv e + m * iv f) ≤ M ∧ -M ≤ iv x1 + iv x2 - (m * iv e + m * iv f) := by clear hbig hM2; constructor <;> omega
  have n1 := h.n1
  have n2 := h.n2
  have w3 : 16 * (iv x1 + iv x2) ≤ 33 * M ∧ -(33 * M) ≤ 16 * (iv x1 + iv x2) := by
    have h1 : 9007199254740990 * iv b ≤ M ∧ -M ≤ 9007199254740990 * iv b := by clear hbig hM2 n1 n2 q1 q2; omega
    clear hbig hM2 tb tmf tf me3 le1 cS
    constructor <;> omega
  have rx := rnd_rel (iv x1 + iv x2)
  rw [← vx1] at rx
  have w4 : -(3 * M) ≤ iv x1 ∧ iv x1 ≤ 3 * M := by
    have e53 : (2 : Int) ^ 53 = 9007199254740992 := by decide
    rw [e53] at rx
    clear hbig hM2 tb tmf tf me3 le1 cS q1 q2 n1 n2 w1 vx1
    generalize iv x1 + iv x2 = s at *
    omega
  clear rx
  obtain ⟨fn1, vn1⟩ := fneg_spec fx1
  obtain ⟨fn2, vn2⟩ := fneg_spec fx2
  obtain ⟨r1, r2, hrest, fr1, fr2, vr, _, _, d1, d2⟩ := addF_spec fa fb fn1 fn2 (M := 3 * M) na (by rw [vn1, vn2, ← Int.neg_add, rnd_neg, ← vx1]) (by omega) (by omega) (by rw [vn1]; omega) (by rw [vn1]; omega) (by omega)
  have e97 : (2 : Int) ^ 97 = 158456325028528675187087900672 := by decide
  rw [e97, vn1, vn2] at d1 d2
  have ed : iv r1 + iv r2 - (iv a + iv b + -iv x1 + -iv x2) = iv r1 + iv r2 - ((iv a + iv b) - (iv x1 + iv x2)) := by omega
  rw [ed] at d1 d2
  have rr := rnd_rel (iv r1 + iv r2)
  rw [← vr] at rr
  have e53 : (2 : Int) ^ 53 = 9007199254740992 := by decide
  rw [e53] at rr
  -- what is left is small
  have lr : ((iv r1).natAbs : Int) ≤ M := by
    clear hbig hM2 tb tmf tf me3 le1 cS vr vx1 w3 w4 hA la
    have : 562949953421312 * (iv r1 + iv r2) ≤ M ∧ -M ≤ 562949953421312 * (iv r1 + iv r2) := by
      clear rr w1
      constructor <;> omega
    clear d1 d2 q1 q2 n1 n2 w1
    generalize iv r1 + iv r2 = R at *
    omega
  have hdv : 4 * ((iv r1).natAbs * 2 ^ U) < (iv c).natAbs * 2 ^ Bt := by
    have l1 : 2 ^ U ≤ (iv c).natAbs := by
      have : 1 * S ≤ m * S := scale_le hSp m1
      rw [hS] at this cS
      omega
    have l2 : 4 * (iv r1).natAbs < 2 ^ Bt := by
      have hp := Nat.two_pow_pos Bt
      omega
    have l3 := Nat.mul_le_mul_right (2 ^ Bt) l1
    have l4 : 4 * ((iv r1).natAbs * 2 ^ U) < 2 ^ Bt * 2 ^ U := by rw [← Nat.mul_assoc]; exact Nat.mul_lt_mul_of_pos_right l2 (Nat.two_pow_pos U)
    rw [Nat.mul_comm (2 ^ Bt)] at l4
    omega
  have c0 : iv c ≠ 0 := by
    intro h0
    rw [h0] at cS
    have : 1 * S ≤ m * S := scale_le hSp m1
    omega
  obtain ⟨z, hdiv, fz, z1, z2⟩ := fdiv_rel fr1 fc c0 hdv
  have e52 : (2 : Int) ^ 52 = 4503599627370496 := by decide
  have e51 : (2 : Int) ^ 51 = 2251799813685248 := by decide
  rw [e52, e51, eS, whole_div hSp hc, cS, ← Int.mul_assoc 2251799813685248, ← Int.sub_mul, ← Int.mul_assoc, ← Int.add_mul] at z1 z2
  replace z1 := Int.le_of_mul_le_mul_right z1 hSp
  replace z2 := Int.le_of_mul_le_mul_right z2 hSp
  have lz : ((m * iv z).natAbs : Int) ≤ 3 * M := by
    clear hbig hM2 tb tmf tf me3 le1 cS vr vx1 w3 w4 hA la q1 q2 n1 n2 w1 d1 d2 rr ed hdv
    omega
  obtain ⟨Me, hMe⟩ : ∃ Me : Int, Me = if (iv e).natAbs ≤ (iv z).natAbs then ((iv z).natAbs : Int) else ((iv e).natAbs : Int) := ⟨_, rfl⟩
  have hMe1 : ((iv e).natAbs : Int) ≤ Me ∧ ((iv z).natAbs : Int) ≤ Me := by rw [hMe]; split <;> omega
  have hMe2 : m * Me ≤ 3 * M := by
    have a1 : m * ((iv e).natAbs : Int) = ((m * iv e).natAbs : Int) := by rw [Int.natAbs_mul, Int.natCast_mul]; congr 1; omega
    have a2 : m * ((iv z).natAbs : Int) = ((m * iv z).natAbs : Int) := by rw [Int.natAbs_mul, Int.natCast_mul]; congr 1; omega
    rw [hMe]
    split
    · rw [a2]; exact lz
    · rw [a1]; exact me3
  have hMe3 : Me ≤ m * Me := by
    have : 1 * Me ≤ m * Me := Int.mul_le_mul_of_nonneg_right m1 (by omega)
    omega
  obtain ⟨g, k, hadd, fg, fk, vg, sg, sk, k1, k2⟩ := addF_spec h.fe h.ff fz fnt_zero (M := Me) h.neat.symm (by rw [iv_zero, Int.add_zero]; exact (rep_iv fz).rnd_eq) (by omega) (by omega) (by omega) (by omega) (by omega)
  rw [e97, iv_zero] at k1 k2
  have k3 := Int.mul_le_mul_of_nonneg_left k1 (show 0 ≤ m by omega)
  have k4 := Int.mul_le_mul_of_nonneg_left k2 (show 0 ≤ m by omega)
  have eg : m * (158456325028528675187087900672 * (iv g + iv k - (iv e + iv f + iv z + 0))) = 158456325028528675187087900672 * (m * iv g + m * iv k - (m * iv e + m * iv f + m * iv z)) := by
    rw [Int.mul_left_comm, Int.mul_sub, Int.add_zero, Int.mul_add, Int.mul_add, Int.mul_add]
  rw [eg] at k3 k4
  rw [Int.mul_neg] at k4
  have fin := round_w (A := iv a + iv b) (me := m * iv e) (mf := m * iv f) (w := iv x1 + iv x2) (R := iv r1 + iv r2) (r := iv r1) (zm := m * iv z) (G := m * iv g + m * iv k) (M := M) (m := m) hM1 (by omega) m2 n1 n2 q1 q2 d1 d2 rr.1 rr.2 z1 z2 (by omega) (by omega)
  refine ⟨g, k, ?_, fg, fk, vg, sg, sk, fin.1, fin.2⟩
  simp only [quoStep, restF, hmul, hrest, hdiv, hadd, Option.bind_some]

theorem NearW.of {a b g k : Nat} {m M : Int} (fg : Fnt g) (fk : Fnt k) (vg : iv g = rnd (iv g + iv k)) (h1 : 9903520314283042199192993792 * (m * iv g + m * iv k - (iv a + iv b)) ≤ M) (h2 : -M ≤ 9903520314283042199192993792 * (m * iv g + m * iv k - (iv a + iv b))) : NearW a b g k m M := by
  refine ⟨fg, fk, vg, ?_, ?_⟩
  · generalize m * iv g + m * iv k - (iv a + iv b) = x at *
    omega
  · generalize m * iv g + m * iv k - (iv a + iv b) = x at *
    omega

/-- The quotient by a whole number. -/
theorem quoF_abs {a b c : Nat} {m M S : Int} (hS : S = ((2 ^ U : Nat) : Int)) (fa : Fnt a) (fb : Fnt b) (na : rnd (iv a + iv b) = iv a) (fc : Fnt c) (hc : iv c = m * S) (m1 : 1 ≤ m) (m2 : m ≤ 1099511627776)
    (la : ((iv a).natAbs : Int) ≤ M) (hM1 : 6901746346790563787434755862277025452451108972170386555162524223799296 ≤ M) (hM2 : M < ((2 ^ (U + 58) : Nat) : Int)) :
    ∃ g k, quoF (a, b) (c, 0) = some (g, k) ∧ Fnt g ∧ Fnt k ∧ iv g = rnd (iv g + iv k) ∧ Sm (iv g) ∧ Sm (iv k) ∧ 9903520314283042199192993792 * (m * iv g + m * iv k - (iv a + iv b)) ≤ M ∧ -M ≤ 9903520314283042199192993792 * (m * iv g + m * iv k - (iv a + iv b)) := by
  have hSp : 0 < S := by rw [hS]; have := Nat.two_pow_pos U; omega
  have eS : (2 : Int) ^ U = S := by rw [hS]; exact (Int.natCast_pow _ _).symm
  have hbig := big_M hM2
  have cS : ((iv c).natAbs : Int) = m * S := by rw [hc, Int.natAbs_mul, Int.natCast_mul]; congr 1 <;> omega
  have hdv : 4 * ((iv a).natAbs * 2 ^ U) < (iv c).natAbs * 2 ^ Bt := by
    have l1 : 2 ^ U ≤ (iv c).natAbs := by
      have : 1 * S ≤ m * S := scale_le hSp m1
      rw [hS] at this cS
      omega
    have l2 : 4 * (iv a).natAbs < 2 ^ Bt := by
      have hp := Nat.two_pow_pos Bt
      omega
    have l3 := Nat.mul_le_mul_right (2 ^ Bt) l1
    have l4 : 4 * ((iv a).natAbs * 2 ^ U) < 2 ^ Bt * 2 ^ U := by rw [← Nat.mul_assoc]; exact Nat.mul_lt_mul_of_pos_right l2 (Nat.two_pow_pos U)
    rw [Nat.mul_comm (2 ^ Bt)] at l4
    omega
  have c0 : iv c ≠ 0 := by
    intro h0
    rw [h0] at cS
    have : 1 * S ≤ m * S := scale_le hSp m1
    omega
  obtain ⟨z, hdiv, fz, z1, z2⟩ := fdiv_rel fa fc c0 hdv
  have e52 : (2 : Int) ^ 52 = 4503599627370496 := by decide
  have e51 : (2 : Int) ^ 51 = 2251799813685248 := by decide
  rw [e52, e51, eS, whole_div hSp hc, cS, ← Int.mul_assoc 2251799813685248, ← Int.sub_mul, ← Int.mul_assoc, ← Int.add_mul] at z1 z2
  replace z1 := Int.le_of_mul_le_mul_right z1 hSp
  replace z2 := Int.le_of_mul_le_mul_right z2 hSp
  have tb := tame_second na
  have h0 : NearW a b z 0 m M := by
    have h1 : 9007199254740990 * iv b ≤ M ∧ -M ≤ 9007199254740990 * iv b := by clear hbig hM2 hdv z1 z2; omega
    refine ⟨fz, fnt_zero, by rw [iv_zero, Int.add_zero]; exact (rep_iv fz).rnd_eq.symm, ?_, ?_⟩
    · rw [iv_zero, Int.mul_zero, Int.add_zero]
      clear hbig hM2 hdv tb cS
      omega
    · rw [iv_zero, Int.mul_zero, Int.add_zero]
      clear hbig hM2 hdv tb cS
      omega
  obtain ⟨e, f, h1, fe, ff, ve, _, _, p1, p2⟩ := quo_roundW hS fa fb na fc hc m1 m2 la hM1 hM2 h0
  obtain ⟨g, k, h2, fg, fk, vg, sg, sk, p3, p4⟩ := quo_roundW hS fa fb na fc hc m1 m2 la hM1 hM2 (NearW.of fe ff ve p1 p2)
  refine ⟨g, k, ?_, fg, fk, vg, sg, sk, p3, p4⟩
  simp only [quoF, hdiv, h1, h2, Option.bind_some]

end Go.Proofs.Ytnpkblidlmkagaa
