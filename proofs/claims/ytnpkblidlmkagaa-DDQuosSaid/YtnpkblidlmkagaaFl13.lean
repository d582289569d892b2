/- One round of the quotient, whole. -/
import Derived.Test.YtnpkblidlmkagaaFl12
set_option linter.unusedSimpArgs false
set_option linter.unusedVariables false
namespace Go.Proofs.Ytnpkblidlmkagaa
open Fl

theorem quo_split (c d q z q' : Int) : (c + d) * q' = (c + d) * q + z * c + z * d + (c + d) * (q' - (q + z)) := by
  rw [Int.mul_sub, Int.mul_add (c + d) q z, Int.add_mul c d z, Int.mul_comm z c, Int.mul_comm z d]; omega

theorem two_sided {x y : Int} {L : Int} (h : 9007199254740990 * x.natAbs ≤ y.natAbs) (hL : (y.natAbs : Int) ≤ L) : -L ≤ 9007199254740990 * x ∧ 9007199254740990 * x ≤ L := by omega
theorem two_sided2 {x y : Int} {L : Int} (h : 9007199254740990 * (9007199254740990 * x.natAbs) ≤ y.natAbs) (hL : (y.natAbs : Int) ≤ L) : -L ≤ (9007199254740990 * 9007199254740990) * x ∧ (9007199254740990 * 9007199254740990) * x ≤ L := by omega

theorem abs_mul_pos {x S : Int} (hS : 0 < S) : ((x * S).natAbs : Int) = (x.natAbs : Int) * S := by
  rw [Int.natAbs_mul, Int.natCast_mul]
  congr 1; omega

/-- The whole bound M of a round. -/
theorem round_M (α : Int) (h : 0 ≤ α) : ∃ M : Int, 68719476736 * (M - 1) ≤ 68719476737 * α ∧ 68719476737 * α ≤ 68719476736 * M :=
  ⟨(68719476737 * α) / 68719476736 + 1, by omega, by omega⟩

theorem scale_le {x y S : Int} (hS : 0 < S) (h : x ≤ y) : x * S ≤ y * S := Int.mul_le_mul_of_nonneg_right h (by omega)

theorem round_MS {α M S : Int} (hS : 0 < S) (h1 : 68719476736 * (M - 1) ≤ 68719476737 * α) (h2 : 68719476737 * α ≤ 68719476736 * M) :
    68719476736 * (M * S) ≤ 68719476737 * (α * S) + 68719476736 * S ∧ 68719476737 * (α * S) ≤ 68719476736 * (M * S) := by
  have a := scale_le hS h1
  have b := scale_le hS h2
  rw [Int.mul_assoc, Int.mul_assoc, Int.sub_mul, Int.one_mul] at a
  rw [Int.mul_assoc, Int.mul_assoc] at b
  omega

/-- What the product is near to, against the first part. -/
theorem round_N {Nn S α X Bq aS bS : Int} (hS : 0 < S) (hZ : (aS.natAbs : Int) = α * S) (hX : X = aS + bS) (hb : 9007199254740990 * bS.natAbs ≤ aS.natAbs) (g1 : 1125899906842624 * (X - Bq) ≤ (aS.natAbs : Int)) (g2 : -(aS.natAbs : Int) ≤ 1125899906842624 * (X - Bq))
    (s : 1298074214633706907132624082305024 * S ≤ α * S) (L1 : Nn * S ≤ Bq) (L2 : Bq < Nn * S + 3 * S) : 281474976710656 * Nn ≤ 281474976710657 * α ∧ -(281474976710657 * α) ≤ 281474976710656 * Nn := by
  have b1 := two_sided hb (Int.le_refl _)
  have s1 : aS ≤ (aS.natAbs : Int) ∧ -(aS.natAbs : Int) ≤ aS := by omega
  rw [hZ] at b1 g1 g2 s1
  clear hb hZ
  have a1 : 281474976710656 * (Nn * S) ≤ 281474976710657 * (α * S) ∧ -(281474976710657 * (α * S)) ≤ 281474976710656 * (Nn * S) := by
    generalize α * S = Z at *
    generalize Nn * S = n at *
    subst hX
    omega
  constructor
  · refine Int.le_of_mul_le_mul_right ?_ hS
    rw [Int.mul_assoc, Int.mul_assoc]; exact a1.1
  · refine Int.le_of_mul_le_mul_right ?_ hS
    rw [Int.neg_mul, Int.mul_assoc, Int.mul_assoc]; exact a1.2

theorem round_m {m1 m2 Nn M α : Int} (hv : m1 = rnd (m1 + m2)) (n1 : 281474976710656 * Nn ≤ 281474976710657 * α) (n2 : -(281474976710657 * α) ≤ 281474976710656 * Nn) (hM : 68719476737 * α ≤ 68719476736 * M) (hM' : 68719476736 * (M - 1) ≤ 68719476737 * α) (ha : 1298074214633706907132624082305024 ≤ α)
    (e1 : 158456325028528675187087900672 * (m1 + m2 - Nn) ≤ M) (e2 : -M ≤ 158456325028528675187087900672 * (m1 + m2 - Nn)) : -M ≤ m1 ∧ m1 ≤ M ∧ -(2 * M) ≤ m1 + m2 ∧ m1 + m2 ≤ 2 * M := by
  have hr := rnd_rel (m1 + m2)
  rw [← hv] at hr
  generalize m1 + m2 = s at *
  have b1 : s ≤ (s.natAbs : Int) ∧ -(s.natAbs : Int) ≤ s ∧ 17592186044416 * (s.natAbs : Int) ≤ 17592186044417 * α := by
    clear hr hv
    refine ⟨by omega, by omega, ?_⟩
    omega
  generalize ((s.natAbs : Nat) : Int) = t at *
  clear e1 e2 n1 n2 hv
  have e53 : (2 : Int) ^ 53 = 9007199254740992 := by decide
  rw [e53] at hr
  refine ⟨?_, ?_, ?_, ?_⟩ <;> omega

/-- What is left is small. -/
theorem round_r {X Bq n mS R Z MS S : Int} (g1 : 1125899906842624 * (X - Bq) ≤ Z) (g2 : -Z ≤ 1125899906842624 * (X - Bq)) (s : 1298074214633706907132624082305024 * S ≤ Z) (hS : 0 < S)
    (m1 : 68719476736 * MS ≤ 68719476737 * Z + 68719476736 * S) (L1 : n ≤ Bq) (L2 : Bq < n + 3 * S) (e1 : 158456325028528675187087900672 * (mS - n) ≤ MS) (e2 : -MS ≤ 158456325028528675187087900672 * (mS - n))
    (d1 : 158456325028528675187087900672 * (R - (X - mS)) ≤ MS) (d2 : -MS ≤ 158456325028528675187087900672 * (R - (X - mS))) : 562949953421312 * R ≤ Z ∧ -Z ≤ 562949953421312 * R := by
  constructor <;> omega

theorem round_z {R r zc Z κ W : Int} (h1 : 562949953421312 * R ≤ Z) (h2 : -Z ≤ 562949953421312 * R) (s1 : 9007199254740992 * (r - R) ≤ R.natAbs) (s2 : 9007199254740992 * (R - r) ≤ R.natAbs)
    (z1 : 4503599627370496 * (zc - r) ≤ r.natAbs + 2251799813685248 * κ) (z2 : 4503599627370496 * (r - zc) ≤ r.natAbs + 2251799813685248 * κ) (hk : 1298074214633706907132624082305024 * κ ≤ Z) (hκ : 0 ≤ κ)
    (hW : 1099511627775 * Z ≤ 1099511627776 * W) : (zc.natAbs : Int) ≤ W := by
  have a1 : (R.natAbs : Int) * 562949953421312 ≤ Z := by omega
  generalize (R.natAbs : Int) = u at *
  have a2 : (r.natAbs : Int) * 281474976710656 ≤ Z := by omega
  generalize (r.natAbs : Int) = v at *
  have a3 : zc * 68719476736 ≤ Z ∧ -Z ≤ zc * 68719476736 := by
    clear hW
    omega
  clear h1 h2 s1 s2 z1 z2 a1 a2
  omega

theorem round_end {X Y MS Z S κ g K W : Int} (h1 : 2 * 158456325028528675187087900672 * (X - Y) ≤ 5 * MS + 2 * K + 281474976710656 * g + 2 * 158456325028528675187087900672 * (4 * S + κ))
    (h2 : -(5 * MS + 2 * K + 281474976710656 * g + 2 * 158456325028528675187087900672 * (4 * S + κ)) ≤ 2 * 158456325028528675187087900672 * (X - Y))
    (m1 : 68719476736 * MS ≤ 68719476737 * Z + 68719476736 * S) (s : 1298074214633706907132624082305024 * S ≤ Z) (hk : 1298074214633706907132624082305024 * κ ≤ Z) (hS : 0 < S) (hκ : 0 ≤ κ)
    (hK : 9007199254740990 * K ≤ 9007199254740991 * W) (hW : 1099511627776 * W ≤ 1099511627777 * Z) (hg : 1125899906842624 * g ≤ Z) :
    39614081257132168796771975168 * (X - Y) ≤ Z ∧ -Z ≤ 39614081257132168796771975168 * (X - Y) := by
  constructor <;> omega

end Go.Proofs.Ytnpkblidlmkagaa
