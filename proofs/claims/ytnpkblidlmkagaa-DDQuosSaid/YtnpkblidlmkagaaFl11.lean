/- One round of the quotient: what is left. -/
import Derived.Test.YtnpkblidlmkagaaFl10
set_option linter.unusedSimpArgs false
set_option linter.unusedVariables false
namespace Go.Proofs.Ytnpkblidlmkagaa
open Fl

/-- X = A*S, Bq = B*q, the other limbs scaled alike; T = 2^97. What is left behind the round, against what was left ahead of it (g). -/
theorem round_alg {X Bq n m R r zc zd BD M K S C g T : Int} (hT : T = 158456325028528675187087900672) (hS : 0 ≤ S) (hC : 0 ≤ C) (hM : 0 ≤ M) (hg : 0 ≤ g)
    (n1 : n ≤ Bq) (n2 : Bq ≤ n + 3 * S) (m1 : T * (m - n) ≤ M) (m2 : -M ≤ T * (m - n)) (r1 : T * (R - (X - m)) ≤ M) (r2 : -M ≤ T * (R - (X - m)))
    (g1 : X - Bq ≤ g) (g2 : -g ≤ X - Bq)
    (s1 : 9007199254740992 * (r - R) ≤ R.natAbs) (s2 : 9007199254740992 * (R - r) ≤ R.natAbs)
    (z1 : 4503599627370496 * (zc - r) ≤ r.natAbs + 2251799813685248 * C) (z2 : 4503599627370496 * (r - zc) ≤ r.natAbs + 2251799813685248 * C)
    (d1 : 9007199254740990 * (zd.natAbs : Int) ≤ zc.natAbs) (k1 : T * BD ≤ K) (k2 : -K ≤ T * BD) :
    2 * T * (X - (Bq + zc + zd + BD)) ≤ 5 * M + 2 * K + 281474976710656 * g + 2 * T * (4 * S + C) ∧ -(5 * M + 2 * K + 281474976710656 * g + 2 * T * (4 * S + C)) ≤ 2 * T * (X - (Bq + zc + zd + BD)) := by
  subst hT
  obtain ⟨u, hu⟩ : ∃ u : Int, u = R.natAbs := ⟨_, rfl⟩
  have u1 : 158456325028528675187087900672 * u ≤ 158456325028528675187087900672 * g + 2 * M + 475368975085586025561263702016 * S := by omega
  have u2 : R ≤ u ∧ -u ≤ R := by omega
  rw [← hu] at s1 s2
  clear hu
  obtain ⟨v, hv⟩ : ∃ v : Int, v = r.natAbs := ⟨_, rfl⟩
  have v1 : 9007199254740992 * v ≤ 9007199254740993 * u := by omega
  have v2 : r ≤ v ∧ -v ≤ r := by omega
  rw [← hv] at z1 z2
  clear hv
  obtain ⟨y, hy⟩ : ∃ y : Int, y = zc.natAbs := ⟨_, rfl⟩
  rw [← hy] at d1
  have y1 : 4503599627370496 * y ≤ 4503599627370497 * v + 2251799813685248 * C := by
    clear u1 u2 s1 s2 n1 n2 m1 m2 r1 r2 g1 g2 d1 k1 k2 v1
    omega
  clear hy v2
  have w1 : 9007199254740990 * zd ≤ y ∧ -y ≤ 9007199254740990 * zd := by
    clear u1 u2 s1 s2 n1 n2 m1 m2 r1 r2 g1 g2 k1 k2 v1 y1 z1 z2
    omega
  clear d1
  have hw : 1125899906842624 * (R - zc - zd) ≤ u + 1125899906842624 * C ∧ -(u + 1125899906842624 * C) ≤ 1125899906842624 * (R - zc - zd) := by
    clear u1 n1 n2 m1 m2 r1 r2 g1 g2 k1 k2
    constructor <;> omega
  clear w1 y1 v1 z1 z2 s1 s2 u2
  have he : 158456325028528675187087900672 * (X - Bq - R) ≤ 2 * M + 475368975085586025561263702016 * S ∧ -(2 * M + 475368975085586025561263702016 * S) ≤ 158456325028528675187087900672 * (X - Bq - R) := by
    clear u1 hw g1 g2 k1 k2
    constructor <;> omega
  clear n1 n2 m1 m2 r1 r2 g1 g2
  have es : X - (Bq + zc + zd + BD) = (X - Bq - R) + (R - zc - zd) - BD := by omega
  rw [es]
  clear es
  generalize X - Bq - R = e1 at *
  generalize R - zc - zd = w at *
  constructor <;> omega

end Go.Proofs.Ytnpkblidlmkagaa
