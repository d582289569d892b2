/- The walks of TrigCircle and TrigAdds. -/
import Derived.Test.YtnpkblidlmkagaaXB
import Derived.Test.YtnpkblidlmkagaaV8
import Derived.BigQuiet
set_option linter.unusedSimpArgs false
set_option linter.unusedVariables false
namespace Go.Proofs.Ytnpkblidlmkagaa
open Go.RowKit Fl

/-- A number whose value is q times S. -/
structure Rt (S : Int) (a : Nat × Nat) (q : Rat) : Prop where
  out : ∃ v : Int, Ok a v ∧ (v : Rat) = (S : Rat) * q

/-- 2^-100. -/
def dl : Rat := 1 / 1267650600228229401496703205376
theorem dl_pos : 0 < dl ∧ dl ≤ 1 / 1000000 ∧ eps ≤ dl ∧ 1267650600228229401496703205376 * dl = 1 ∧ 79228162514264337593543950336 * (16 * dl) = 1 := by decide +kernel

theorem S_pos {S : Int} (hS : S = ((2 ^ U : Nat) : Int)) : 0 < S ∧ (0 : Rat) < (S : Rat) := by
  have h : 0 < S := by rw [hS]; have := Nat.two_pow_pos U; omega
  have : ((1 : Int) : Rat) ≤ (S : Rat) := Rat.intCast_le_intCast.2 h
  have e : ((1 : Int) : Rat) = 1 := rfl
  exact ⟨h, by grind⟩

theorem rt_int {S v B : Int} {q : Rat} (hS : (0 : Rat) < (S : Rat)) (hv : (v : Rat) = (S : Rat) * q) (h1 : -(B : Rat) ≤ q) (h2 : q ≤ (B : Rat)) : -(B * S) ≤ v ∧ v ≤ B * S := by
  constructor
  · apply Rat.intCast_le_intCast.1
    rw [hv, Rat.intCast_neg, Rat.intCast_mul]
    have := Rat.mul_nonneg (Rat.le_of_lt hS) (show 0 ≤ q + B by grind)
    grind
  · apply Rat.intCast_le_intCast.1
    rw [hv, Rat.intCast_mul]
    have := Rat.mul_nonneg (Rat.le_of_lt hS) (show 0 ≤ B - q by grind)
    grind

theorem Acc.rt {S : Int} {a : Nat × Nat} {e : Rat} (hS : S = ((2 ^ U : Nat) : Int)) (h : Acc S a e) : ∃ q, Rt S a q ∧ -(2003 * dl) ≤ q - e ∧ q - e ≤ 2003 * dl := by
  obtain ⟨s0, s1⟩ := S_pos hS
  obtain ⟨v, h1, h2, h3⟩ := h.out
  have hm : (S : Rat) ≠ 0 := by grind
  obtain ⟨_, _, _, hd, _⟩ := dl_pos
  refine ⟨(v : Rat) / S, ⟨v, h1, by grind⟩, ?_, ?_⟩
  · obtain ⟨q, hq⟩ : ∃ q, q = (v : Rat) / S := ⟨_, rfl⟩
    have e1 : (v : Rat) = S * q := by rw [hq]; grind
    rw [← hq]
    rw [e1] at h2
    apply Decidable.byContradiction
    intro hc
    have := Rat.mul_pos s1 (show 0 < -(2003 * dl) - (q - e) by grind)
    clear hq e1 h1 h3
    have e2 : (S : Rat) * (1267650600228229401496703205376 * dl) = S := by rw [hd]; grind
    grind
  · obtain ⟨q, hq⟩ : ∃ q, q = (v : Rat) / S := ⟨_, rfl⟩
    have e1 : (v : Rat) = S * q := by rw [hq]; grind
    rw [← hq]
    rw [e1] at h3
    apply Decidable.byContradiction
    intro hc
    have := Rat.mul_pos s1 (show 0 < (q - e) - 2003 * dl by grind)
    clear hq e1 h1 h2
    have e2 : (S : Rat) * (1267650600228229401496703205376 * dl) = S := by rw [hd]; grind
    grind

theorem two_cast (B : Int) (q : Rat) (b : Rat) (hb : (B : Rat) = b) (h1 : -b ≤ q) (h2 : q ≤ b) : -(B : Rat) ≤ q ∧ q ≤ (B : Rat) := by rw [hb]; exact ⟨h1, h2⟩

theorem mul_rt {S : Int} {a b : Nat × Nat} {p q : Rat} (hS : S = ((2 ^ U : Nat) : Int)) (ha : Rt S a p) (hb : Rt S b q) (p1 : -2 ≤ p) (p2 : p ≤ 2) (q1 : -2 ≤ q) (q2 : q ≤ 2) :
    ∃ c r, mulF a b = some c ∧ Rt S c r ∧ -(96 * dl) ≤ r - p * q ∧ r - p * q ≤ 96 * dl := by
  obtain ⟨s0, s1⟩ := S_pos hS
  obtain ⟨u, ou, hu⟩ := ha.out
  obtain ⟨v, ov, hv⟩ := hb.out
  obtain ⟨a1, a2⟩ := rt_int (B := 2) s1 hu p1 p2
  obtain ⟨b1, b2⟩ := rt_int (B := 2) s1 hv q1 q2
  obtain ⟨k1, k2⟩ := S_big hS
  obtain ⟨c, w, h1, ow, w1, w2⟩ := mul_ok (M := 6 * S) (A := 2 * S) (B := 2 * S) hS ou ov a1 a2 b1 b2 (by omega) (by omega) (by omega) (by omega) (by
    have e1 : 2 * S * (2 * S) = 4 * (S * S) := by rw [mul4]; rfl
    have e2 : 6 * S * S = 6 * (S * S) := by rw [Int.mul_assoc]
    have h2 : 0 ≤ S * S := Int.mul_nonneg (by omega) (by omega)
    rw [e1, e2]; omega) (by omega) (by omega)
  obtain ⟨_, _, _, hd, hd2⟩ := dl_pos
  have hm : (S : Rat) ≠ 0 := by grind
  obtain ⟨r, hr⟩ : ∃ r, r = (w : Rat) / S := ⟨_, rfl⟩
  have er : (w : Rat) = S * r := by rw [hr]; grind
  have g1 := Rat.intCast_le_intCast.2 w1
  have g2 := Rat.intCast_le_intCast.2 w2
  rw [Rat.intCast_mul, Rat.intCast_sub, Rat.intCast_mul, Rat.intCast_mul, Rat.intCast_mul, Rat.intCast_mul, er, hu, hv] at g1
  rw [Rat.intCast_mul, Rat.intCast_sub, Rat.intCast_mul, Rat.intCast_mul, Rat.intCast_neg, Rat.intCast_mul, Rat.intCast_mul, er, hu, hv] at g2
  have n1 : ((79228162514264337593543950336 : Int) : Rat) = 79228162514264337593543950336 := rfl
  have n2 : ((6 : Int) : Rat) = 6 := rfl
  rw [n1, n2] at g1 g2
  refine ⟨c, r, h1, ⟨w, ow, er⟩, ?_, ?_⟩
  · apply Decidable.byContradiction
    intro hc
    have := Rat.mul_pos (Rat.mul_pos s1 s1) (show 0 < -(96 * dl) - (r - p * q) by grind)
    have e2 : (S : Rat) * S * (79228162514264337593543950336 * (16 * dl)) = S * S := by rw [hd2]; grind
    clear h1 ow ou ov hr er hu hv hS g1 hd
    grind
  · apply Decidable.byContradiction
    intro hc
    have := Rat.mul_pos (Rat.mul_pos s1 s1) (show 0 < (r - p * q) - 96 * dl by grind)
    have e2 : (S : Rat) * S * (79228162514264337593543950336 * (16 * dl)) = S * S := by rw [hd2]; grind
    clear h1 ow ou ov hr er hu hv hS g2 hd
    grind

theorem add_rt {S : Int} {a b : Nat × Nat} {p q : Rat} (hS : S = ((2 ^ U : Nat) : Int)) (ha : Rt S a p) (hb : Rt S b q) (p1 : -8 ≤ p) (p2 : p ≤ 8) (q1 : -8 ≤ q) (q2 : q ≤ 8) :
    ∃ c r, addF a b = some c ∧ Rt S c r ∧ -(128 * dl) ≤ r - (p + q) ∧ r - (p + q) ≤ 128 * dl := by
  obtain ⟨s0, s1⟩ := S_pos hS
  obtain ⟨u, ou, hu⟩ := ha.out
  obtain ⟨v, ov, hv⟩ := hb.out
  obtain ⟨a1, a2⟩ := rt_int (B := 8) s1 hu p1 p2
  obtain ⟨b1, b2⟩ := rt_int (B := 8) s1 hv q1 q2
  obtain ⟨c, w, h1, ow, w1, w2⟩ := add_ok (M := 8 * S) hS ou ov a1 a2 b1 b2 (by omega)
  obtain ⟨_, _, _, hd, hd2⟩ := dl_pos
  have hm : (S : Rat) ≠ 0 := by grind
  obtain ⟨r, hr⟩ : ∃ r, r = (w : Rat) / S := ⟨_, rfl⟩
  have er : (w : Rat) = S * r := by rw [hr]; grind
  have g1 := Rat.intCast_le_intCast.2 w1
  have g2 := Rat.intCast_le_intCast.2 w2
  rw [Rat.intCast_mul, Rat.intCast_sub, Rat.intCast_add, Rat.intCast_mul, er, hu, hv] at g1
  rw [Rat.intCast_mul, Rat.intCast_sub, Rat.intCast_add, Rat.intCast_neg, Rat.intCast_mul, er, hu, hv] at g2
  have n1 : ((79228162514264337593543950336 : Int) : Rat) = 79228162514264337593543950336 := rfl
  have n2 : ((8 : Int) : Rat) = 8 := rfl
  rw [n1, n2] at g1 g2
  refine ⟨c, r, h1, ⟨w, ow, er⟩, ?_, ?_⟩
  · apply Decidable.byContradiction
    intro hc
    have := Rat.mul_pos s1 (show 0 < -(128 * dl) - (r - (p + q)) by grind)
    have e2 : (S : Rat) * (79228162514264337593543950336 * (16 * dl)) = S := by rw [hd2]; grind
    clear h1 ow ou ov hr er hu hv hS g1 hd
    grind
  · apply Decidable.byContradiction
    intro hc
    have := Rat.mul_pos s1 (show 0 < (r - (p + q)) - 128 * dl by grind)
    have e2 : (S : Rat) * (79228162514264337593543950336 * (16 * dl)) = S := by rw [hd2]; grind
    clear h1 ow ou ov hr er hu hv hS g2 hd
    grind

theorem Rt.neg {S : Int} {a : Nat × Nat} {q : Rat} (h : Rt S a q) : Rt S (negP a) (-q) := by
  obtain ⟨v, h1, h2⟩ := h.out
  exact ⟨-v, h1.neg, by rw [Rat.intCast_neg, h2]; grind⟩

theorem rt_minus_one {S : Int} (hS : S = ((2 ^ U : Nat) : Int)) : Rt S (13830554455654793216, 0) (-1) := by
  have h1 : iv oneW = S := by
    have := (ok_one hS).v
    have z : iv (0 : Nat) = 0 := iv_zero
    have : iv oneW + iv 0 = S := this
    omega
  have e : fneg oneW = 13830554455654793216 := by decide +kernel
  have f1 := fneg_spec fnt_one
  have g1 : Fnt 13830554455654793216 := by rw [← e]; exact f1.1
  have g2 : iv 13830554455654793216 = -S := by
    rw [← e, ← h1]; exact f1.2
  refine ⟨-S, ⟨g1, fnt_zero, ?_, ?_⟩, by rw [Rat.intCast_neg]; grind⟩
  · rw [← g2]; exact (rep_iv g1).rnd_eq
  · show iv 13830554455654793216 + iv 0 = -S
    rw [g2, iv_zero]; omega

set_option maxRecDepth 100000 in
theorem iv_tiny86 {S : Int} (hS : S = ((2 ^ U : Nat) : Int)) : 77371252455336267181195264 * iv 4219872850846154752 = S := by
  obtain ⟨E, hE⟩ : ∃ E : Nat, E = 936 := ⟨_, rfl⟩
  have h : D.read 4219872850846154752 = .number false 4503599627370496 ((E : Int) - 1074) := by rw [hE]; decide +kernel
  have hU : U = 138 + E := by rw [U_eq, hE]
  rw [iv_signed h, signed_eq, hS, hU, Nat.pow_add, Int.natCast_mul, Int.natCast_pow 2 E]
  simp only [Bool.false_eq_true, if_false, Int.one_mul]
  rw [show ((2 ^ 138 : Nat) : Int) = 77371252455336267181195264 * 4503599627370496 from rfl, Int.mul_assoc]
  rfl
set_option maxRecDepth 100000 in
theorem iv_tiny85 {S : Int} (hS : S = ((2 ^ U : Nat) : Int)) : 38685626227668133590597632 * iv 4224376450473525248 = S := by
  obtain ⟨E, hE⟩ : ∃ E : Nat, E = 937 := ⟨_, rfl⟩
  have h : D.read 4224376450473525248 = .number false 4503599627370496 ((E : Int) - 1074) := by rw [hE]; decide +kernel
  have hU : U = 137 + E := by rw [U_eq, hE]
  rw [iv_signed h, signed_eq, hS, hU, Nat.pow_add, Int.natCast_mul, Int.natCast_pow 2 E]
  simp only [Bool.false_eq_true, if_false, Int.one_mul]
  rw [show ((2 ^ 137 : Nat) : Int) = 38685626227668133590597632 * 4503599627370496 from rfl, Int.mul_assoc]
  rfl

/-- A small number's first part is less than a bound. -/
theorem Rt.less {S : Int} {a : Nat × Nat} {q : Rat} (hS : S = ((2 ^ U : Nat) : Int)) (h : Rt S a q) (N : Int) (hN : 1 ≤ N) (hN2 : N ≤ 1000000) (h1 : -((N : Rat) * dl) ≤ q) (h2 : q ≤ (N : Rat) * dl) (c : Nat) (fc : Fnt c) (M : Int) (hc : M * iv c = S) (hM : 0 < M) (hMN : M * (N + 1) ≤ 1267650600228229401496703205376) :
    Fnt a.1 ∧ (FloatKind.f64.format.order (fabs a.1) c == some Ordering.lt) = true := by
  obtain ⟨s0, s1⟩ := S_pos hS
  obtain ⟨v, ok, hv⟩ := h.out
  obtain ⟨_, _, _, hd, _⟩ := dl_pos
  refine ⟨ok.f1, ?_⟩
  have b : -(N * S) ≤ 1267650600228229401496703205376 * v ∧ 1267650600228229401496703205376 * v ≤ N * S := by
    have e2 : (S : Rat) * (N * (1267650600228229401496703205376 * dl)) = S * N := by rw [hd]; grind
    have n1 : ((1267650600228229401496703205376 : Int) : Rat) = 1267650600228229401496703205376 := rfl
    constructor
    · apply Rat.intCast_le_intCast.1
      rw [Rat.intCast_neg, Rat.intCast_mul, Rat.intCast_mul, hv, n1]
      have := Rat.mul_nonneg (Rat.le_of_lt s1) (show 0 ≤ q + N * dl by grind)
      clear hv ok hS hc hMN hd h1 h2
      grind
    · apply Rat.intCast_le_intCast.1
      rw [Rat.intCast_mul, Rat.intCast_mul, hv, n1]
      have := Rat.mul_nonneg (Rat.le_of_lt s1) (show 0 ≤ N * dl - q by grind)
      clear hv ok hS hc hMN hd h1 h2
      grind
  have hr := rnd_rel v
  rw [ok.neat] at hr
  have e53 : (2 : Int) ^ 53 = 9007199254740992 := by decide
  rw [e53] at hr
  have g : ((iv a.1).natAbs : Int) * 1267650600228229401496703205376 < N * S + S := by
    have : 0 < N * S := Int.mul_pos (by omega) s0
    have : N * S ≤ 1000000 * S := Int.mul_le_mul_of_nonneg_right hN2 (by omega)
    generalize N * S = z at *
    clear hc hMN hv h1 h2
    omega
  have hlt : ((iv a.1).natAbs : Int) < iv c := by
    apply Decidable.byContradiction
    intro hn
    have hn : iv c ≤ ((iv a.1).natAbs : Int) := by omega
    have k1 := Int.mul_le_mul_of_nonneg_left hn (show 0 ≤ M by omega)
    rw [hc] at k1
    have k2 := Int.mul_le_mul_of_nonneg_left k1 (show 0 ≤ N + 1 by omega)
    have k3 := Int.mul_le_mul_of_nonneg_right hMN (show 0 ≤ ((iv a.1).natAbs : Int) by omega)
    have e1 : (N + 1) * (M * ((iv a.1).natAbs : Int)) = M * (N + 1) * ((iv a.1).natAbs : Int) := by
      rw [← Int.mul_assoc, Int.mul_comm (N + 1)]
    have e2 : (N + 1) * S = N * S + S := by rw [Int.add_mul, Int.one_mul]
    rw [e1, e2] at k2
    rw [Int.mul_comm] at g
    omega
  show (D.order (fabs a.1) c == some .lt) = true
  rw [order_spec (fabs_fnt ok.f1) fc, iv_fabs ok.f1]
  simp
  exact Int.compare_eq_lt.2 hlt

theorem sq_le {C Z : Rat} (h : C * C + Z * Z - 1 ≤ eps) : -(1001/1000) ≤ C ∧ C ≤ 1001/1000 := by
  obtain ⟨e0, e1⟩ := eps_pos
  have hs : 0 ≤ Z * Z := by
    by_cases h0 : 0 ≤ Z
    · exact Rat.mul_nonneg h0 h0
    · have := Rat.mul_nonneg (show 0 ≤ -Z by grind) (show 0 ≤ -Z by grind)
      grind
  constructor
  · apply Decidable.byContradiction
    intro hc
    have h1 := Rat.mul_pos (show 0 < -(1001/1000) - C by grind) (show 0 < -(1001/1000) - C by grind)
    grind
  · apply Decidable.byContradiction
    intro hc
    have h1 := Rat.mul_pos (show 0 < C - 1001/1000 by grind) (show 0 < C - 1001/1000 by grind)
    grind

theorem near_prod {p q C Z : Rat} (p1 : -(2003 * dl) ≤ p - C) (p2 : p - C ≤ 2003 * dl) (q1 : -(2003 * dl) ≤ q - Z) (q2 : q - Z ≤ 2003 * dl) (c1 : -(1001/1000) ≤ C) (c2 : C ≤ 1001/1000) (z1 : -(1001/1000) ≤ Z) (z2 : Z ≤ 1001/1000) :
    (-2 ≤ p ∧ p ≤ 2) ∧ -(4020 * dl) ≤ p * q - C * Z ∧ p * q - C * Z ≤ 4020 * dl := by
  obtain ⟨d0, d1, _, _, _⟩ := dl_pos
  have m1 := mbR p1 p2 z1 z2
  have m2 := mbR q1 q2 c1 c2
  have m3 := mbR p1 p2 q1 q2
  have m4 := Rat.mul_nonneg (show 0 ≤ 1/1000000 - dl by grind) (Rat.le_of_lt d0)
  refine ⟨⟨by grind, by grind⟩, ?_, ?_⟩
  · clear p1 p2 q1 q2 c1 c2 z1 z2
    grind
  · clear p1 p2 q1 q2 c1 c2 z1 z2
    grind

/-- The unit of the document in those of floats. -/
theorem unit_D' : ∃ (q : Nat) (D S : Int), q = 954 ∧ D = (2 : Int) ^ q ∧ S = ((2 ^ U : Nat) : Int) ∧ S = 1329227995784915872903807060280344576 * D ∧ 0 < D := by
  obtain ⟨q, hq⟩ : ∃ q : Nat, q = 954 := ⟨_, rfl⟩
  have hU := U_eq
  refine ⟨q, _, _, hq, rfl, rfl, ?_, Int.pow_pos (by omega)⟩
  rw [show U = 120 + q by omega, Nat.pow_add, Int.natCast_mul, Int.natCast_pow 2 q]
  rfl

theorem circle_plain (k n : Int) (n1 : 1 ≤ n) (n2 : n ≤ 1099511627776) :
    ∃ p q r d, mulF (exC k n) (exC k n) = some p ∧ mulF (exS k n) (exS k n) = some q ∧ addF p q = some r ∧ addF r (13830554455654793216, 0) = some d ∧ Fnt d.1 ∧ (FloatKind.f64.format.order (fabs d.1) 4219872850846154752 == some Ordering.lt) = true := by
  obtain ⟨q, D, S, hq, hD, hS, hSD, hp⟩ := unit_D'
  obtain ⟨ac, az⟩ := ex_acc hS hSD hp k n n1 n2
  obtain ⟨a0, a1⟩ := ang_bd k n n1
  obtain ⟨h1, h2⟩ := circle (x := ang k n) (by grind) a1
  obtain ⟨c1, c2⟩ := sq_le h2
  obtain ⟨z1, z2⟩ := sq_le (C := si (ang k n)) (Z := co (ang k n)) (by grind)
  obtain ⟨u, ru, u1, u2⟩ := ac.rt hS
  obtain ⟨v, rv, v1, v2⟩ := az.rt hS
  obtain ⟨⟨b1, b2⟩, k1, k2⟩ := near_prod u1 u2 u1 u2 c1 c2 c1 c2
  obtain ⟨⟨b3, b4⟩, k3, k4⟩ := near_prod v1 v2 v1 v2 z1 z2 z1 z2
  obtain ⟨p, x, e1, rp, p1, p2⟩ := mul_rt hS ru ru b1 b2 b1 b2
  obtain ⟨q, y, e2, rq, q1, q2⟩ := mul_rt hS rv rv b3 b4 b3 b4
  obtain ⟨d0, d1, d2, _, _⟩ := dl_pos
  have w1 := mbR c1 c2 c1 c2
  have w2 := mbR z1 z2 z1 z2
  have hx : -2 ≤ x ∧ x ≤ 2 := by
    generalize co (ang k n) * co (ang k n) = t at *
    clear h1 h2 c1 c2 z1 z2 u1 u2 v1 v2
    constructor <;> grind
  have hy : -2 ≤ y ∧ y ≤ 2 := by
    generalize si (ang k n) * si (ang k n) = t at *
    clear h1 h2 c1 c2 z1 z2 u1 u2 v1 v2
    constructor <;> grind
  obtain ⟨r, t, e3, rr, r1, r2⟩ := add_rt hS rp rq (by grind) (by grind) (by grind) (by grind)
  obtain ⟨d, s, e4, rd, s1, s2⟩ := add_rt hS rr (rt_minus_one hS) (by grind) (by grind) (by grind) (by grind)
  have hs : -(8600 * dl) ≤ s ∧ s ≤ 8600 * dl := by
    generalize co (ang k n) * co (ang k n) = t' at *
    generalize si (ang k n) * si (ang k n) = t'' at *
    clear c1 c2 z1 z2 u1 u2 v1 v2 w1 w2 hx hy ac az a0 a1 b1 b2 b3 b4
    constructor <;> grind
  obtain ⟨g1, g2⟩ := rd.less hS 8600 (by omega) (by omega) hs.1 hs.2 4219872850846154752 (by decide +kernel) 77371252455336267181195264 (iv_tiny86 hS) (by omega) (by omega)
  exact ⟨p, q, r, d, e1, e2, e3, e4, g1, g2⟩

theorem adds_plain (a b n : Int) (n1 : 1 ≤ n) (n2 : n ≤ 1099511627776) :
    (∃ p q r t, mulF (exC a n) (exC b n) = some p ∧ mulF (exS a n) (exS b n) = some q ∧ addF p (negP q) = some r ∧ addF r (negP (exC (a + b) n)) = some t ∧ Fnt t.1 ∧ (FloatKind.f64.format.order (fabs t.1) 4224376450473525248 == some Ordering.lt) = true) ∧
    (∃ p q r t, mulF (exS a n) (exC b n) = some p ∧ mulF (exC a n) (exS b n) = some q ∧ addF p q = some r ∧ addF r (negP (exS (a + b) n)) = some t ∧ Fnt t.1 ∧ (FloatKind.f64.format.order (fabs t.1) 4224376450473525248 == some Ordering.lt) = true) := by
  obtain ⟨q, D, S, hq, hD, hS, hSD, hp⟩ := unit_D'
  obtain ⟨ac, az⟩ := ex_acc hS hSD hp a n n1 n2
  obtain ⟨bc, bz⟩ := ex_acc hS hSD hp b n n1 n2
  obtain ⟨cc, cz⟩ := ex_acc hS hSD hp (a + b) n n1 n2
  obtain ⟨a0, a1⟩ := ang_bd a n n1
  obtain ⟨b0, b1⟩ := ang_bd b n n1
  obtain ⟨c0, c1⟩ := ang_bd (a + b) n n1
  have ha := circle (x := ang a n) (by grind) a1
  have hb := circle (x := ang b n) (by grind) b1
  have hc := circle (x := ang (a + b) n) (by grind) c1
  obtain ⟨g1, g2⟩ := ang_add a b n n1
  generalize co (ang a n) = A at *
  generalize si (ang a n) = A' at *
  generalize co (ang b n) = B at *
  generalize si (ang b n) = B' at *
  generalize co (ang (a + b) n) = C at *
  generalize si (ang (a + b) n) = C' at *
  obtain ⟨A1, A2⟩ := sq_le ha.2
  obtain ⟨A3, A4⟩ := sq_le (C := A') (Z := A) (by grind)
  obtain ⟨B1, B2⟩ := sq_le hb.2
  obtain ⟨B3, B4⟩ := sq_le (C := B') (Z := B) (by grind)
  obtain ⟨C1, C2⟩ := sq_le hc.2
  obtain ⟨C3, C4⟩ := sq_le (C := C') (Z := C) (by grind)
  obtain ⟨ua, ra, ua1, ua2⟩ := ac.rt hS
  obtain ⟨va, sa, va1, va2⟩ := az.rt hS
  obtain ⟨ub, rb, ub1, ub2⟩ := bc.rt hS
  obtain ⟨vb, sb, vb1, vb2⟩ := bz.rt hS
  obtain ⟨uc, rc, uc1, uc2⟩ := cc.rt hS
  obtain ⟨vc, scc, vc1, vc2⟩ := cz.rt hS
  obtain ⟨d0, d1, d2, _, _⟩ := dl_pos
  have tiny : 128 * eps ≤ 128 * dl := by grind
  have key : ∀ (x y z : Nat × Nat) (x' y' z' : Nat × Nat) (p q r s f X Y Z W F : Rat) (neg : Bool), Rt S x p → Rt S y q → Rt S x' r → Rt S y' s → Rt S z f →
      -(2003 * dl) ≤ p - X → p - X ≤ 2003 * dl → -(2003 * dl) ≤ q - Y → q - Y ≤ 2003 * dl → -(2003 * dl) ≤ r - Z → r - Z ≤ 2003 * dl → -(2003 * dl) ≤ s - W → s - W ≤ 2003 * dl → -(2003 * dl) ≤ f - F → f - F ≤ 2003 * dl →
      -(1001/1000) ≤ X → X ≤ 1001/1000 → -(1001/1000) ≤ Y → Y ≤ 1001/1000 → -(1001/1000) ≤ Z → Z ≤ 1001/1000 → -(1001/1000) ≤ W → W ≤ 1001/1000 → -(1001/1000) ≤ F → F ≤ 1001/1000 →
      -(128 * eps) ≤ X * Y + (if neg then -(Z * W) else Z * W) - F → X * Y + (if neg then -(Z * W) else Z * W) - F ≤ 128 * eps →
      ∃ m m' k t, mulF x y = some m ∧ mulF x' y' = some m' ∧ addF m (if neg then negP m' else m') = some k ∧ addF k (negP z) = some t ∧ Fnt t.1 ∧ (FloatKind.f64.format.order (fabs t.1) 4224376450473525248 == some Ordering.lt) = true := by
    intro x y z x' y' z' p q r s f X Y Z W F neg rx ry rx' ry' rz p1 p2 q1 q2 r1 r2 s1 s2 f1 f2 X1 X2 Y1 Y2 Z1 Z2 W1 W2 F1 F2 h1 h2
    obtain ⟨⟨i1, i2⟩, k1, k2⟩ := near_prod p1 p2 q1 q2 X1 X2 Y1 Y2
    obtain ⟨⟨i3, i4⟩, _, _⟩ := near_prod q1 q2 p1 p2 Y1 Y2 X1 X2
    obtain ⟨⟨j1, j2⟩, l1, l2⟩ := near_prod r1 r2 s1 s2 Z1 Z2 W1 W2
    obtain ⟨⟨j3, j4⟩, _, _⟩ := near_prod s1 s2 r1 r2 W1 W2 Z1 Z2
    obtain ⟨m, u, e1, rm, m1, m2⟩ := mul_rt hS rx ry i1 i2 i3 i4
    obtain ⟨m', u', e2, rm', m3, m4⟩ := mul_rt hS rx' ry' j1 j2 j3 j4
    have w1 := mbR X1 X2 Y1 Y2
    have w2 := mbR Z1 Z2 W1 W2
    have hu : -2 ≤ u ∧ u ≤ 2 := by
      generalize X * Y = t at *
      clear h1 h2 p1 p2 q1 q2 r1 r2 s1 s2 f1 f2 i1 i2 i3 i4 j1 j2 j3 j4 g1 g2 ha hb hc
      constructor <;> grind
    have hu' : -2 ≤ u' ∧ u' ≤ 2 := by
      generalize Z * W = t at *
      clear h1 h2 p1 p2 q1 q2 r1 r2 s1 s2 f1 f2 i1 i2 i3 i4 j1 j2 j3 j4 g1 g2 ha hb hc
      constructor <;> grind
    have hf : -2 ≤ f ∧ f ≤ 2 := by
      clear h1 h2 p1 p2 q1 q2 r1 r2 s1 s2 i1 i2 i3 i4 j1 j2 j3 j4 g1 g2 ha hb hc k1 k2 l1 l2 w1 w2
      constructor <;> grind
    have rn : Rt S (if neg then negP m' else m') (if neg then -u' else u') := by
      cases neg
      · exact rm'
      · exact rm'.neg
    obtain ⟨k, v, e3, rk, v1, v2⟩ := add_rt hS rm rn (by grind) (by grind) (by cases neg <;> simp <;> grind) (by cases neg <;> simp <;> grind)
    have hv : -5 ≤ v ∧ v ≤ 5 := by
      clear h1 h2 p1 p2 q1 q2 r1 r2 s1 s2 i1 i2 i3 i4 j1 j2 j3 j4 g1 g2 ha hb hc k1 k2 l1 l2 w1 w2 m1 m2 m3 m4 f1 f2
      cases neg <;> simp at v1 v2 <;> constructor <;> grind
    obtain ⟨t, o, e4, rt, o1, o2⟩ := add_rt hS rk rz.neg (by grind) (by grind) (by grind) (by grind)
    have ho : -(12000 * dl) ≤ o ∧ o ≤ 12000 * dl := by
      clear p1 p2 q1 q2 r1 r2 s1 s2 i1 i2 i3 i4 j1 j2 j3 j4 g1 g2 ha hb hc w1 w2 hu hu' hf hv X1 X2 Y1 Y2 Z1 Z2 W1 W2 F1 F2
      generalize X * Y = t1 at *
      generalize Z * W = t2 at *
      generalize p * q = t3 at *
      generalize r * s = t4 at *
      cases neg <;> simp at v1 v2 h1 h2 <;> constructor <;> grind
    obtain ⟨z1, z2⟩ := rt.less hS 12000 (by omega) (by omega) ho.1 ho.2 4224376450473525248 (by decide +kernel) 38685626227668133590597632 (iv_tiny85 hS) (by omega) (by omega)
    exact ⟨m, m', k, t, e1, e2, e3, e4, z1, z2⟩
  constructor
  · exact key _ _ _ _ _ (0, 0) _ _ _ _ _ _ _ _ _ _ true ra rb sa sb rc ua1 ua2 ub1 ub2 va1 va2 vb1 vb2 uc1 uc2 A1 A2 B1 B2 A3 A4 B3 B4 C1 C2 (by simp; grind) (by simp; grind)
  · exact key _ _ _ _ _ (0, 0) _ _ _ _ _ _ _ _ _ _ false sa rb ra sb scc va1 va2 ub1 ub2 ua1 ua2 vb1 vb2 vc1 vc2 A3 A4 B1 B2 A1 A2 B3 B4 C3 C4 (by simp; grind) (by simp; grind)
theorem skX2 {b0 b1 : Nat} {u0 v0 u1 v1 : Value} {D w1 : World} (h0 : Two D b0 u0 v0) (h1 : Two D b1 u1 v1) (hb : Hid (Below D.heap.size D w1)) :
    w1.cell? ⟨b0, 0, none⟩ = some u0 ∧ w1.cell? ⟨b0, 1, none⟩ = some v0 ∧ w1.cell? ⟨b1, 0, none⟩ = some u1 ∧ w1.cell? ⟨b1, 1, none⟩ = some v1 ∧ Hid (Below D.heap.size D w1) := ⟨keep_cell hb.out h0.1, keep_cell hb.out h0.2.1, keep_cell hb.out h1.1, keep_cell hb.out h1.2.1, hb⟩
theorem sBX2 {A0 A1 A2 A3 : Prop} {D W w' : World} (hbb : Below W.heap.size W w') (h : A0 ∧ A1 ∧ A2 ∧ A3 ∧ Hid (Below D.heap.size D W)) : Hid (Below D.heap.size D w') :=
  Lib.hid (h.2.2.2.2.out.trans (hbb.mono h.2.2.2.2.out.size))
theorem skX5 {b0 b1 b2 b3 b4 : Nat} {u0 v0 u1 v1 u2 v2 u3 v3 u4 v4 : Value} {D w1 : World} (h0 : Two D b0 u0 v0) (h1 : Two D b1 u1 v1) (h2 : Two D b2 u2 v2) (h3 : Two D b3 u3 v3) (h4 : Two D b4 u4 v4) (hb : Hid (Below D.heap.size D w1)) :
    w1.cell? ⟨b0, 0, none⟩ = some u0 ∧ w1.cell? ⟨b0, 1, none⟩ = some v0 ∧ w1.cell? ⟨b1, 0, none⟩ = some u1 ∧ w1.cell? ⟨b1, 1, none⟩ = some v1 ∧ w1.cell? ⟨b2, 0, none⟩ = some u2 ∧ w1.cell? ⟨b2, 1, none⟩ = some v2 ∧ w1.cell? ⟨b3, 0, none⟩ = some u3 ∧ w1.cell? ⟨b3, 1, none⟩ = some v3 ∧ w1.cell? ⟨b4, 0, none⟩ = some u4 ∧ w1.cell? ⟨b4, 1, none⟩ = some v4 ∧ Hid (Below D.heap.size D w1) := ⟨keep_cell hb.out h0.1, keep_cell hb.out h0.2.1, keep_cell hb.out h1.1, keep_cell hb.out h1.2.1, keep_cell hb.out h2.1, keep_cell hb.out h2.2.1, keep_cell hb.out h3.1, keep_cell hb.out h3.2.1, keep_cell hb.out h4.1, keep_cell hb.out h4.2.1, hb⟩
theorem sBX5 {A0 A1 A2 A3 A4 A5 A6 A7 A8 A9 : Prop} {D W w' : World} (hbb : Below W.heap.size W w') (h : A0 ∧ A1 ∧ A2 ∧ A3 ∧ A4 ∧ A5 ∧ A6 ∧ A7 ∧ A8 ∧ A9 ∧ Hid (Below D.heap.size D W)) : Hid (Below D.heap.size D w') :=
  Lib.hid (h.2.2.2.2.2.2.2.2.2.2.out.trans (hbb.mono h.2.2.2.2.2.2.2.2.2.2.out.size))

set_option maxRecDepth 100000 in
set_option maxHeartbeats 8000000 in
theorem circle_all (k n : Int) (w : World) (hn : -9223372036854775808 ≤ n) (hn2 : n ≤ 9223372036854775807) :
    Calls Try.prog 12 #[.int .i64 k, .int .i64 n] w fun z w' => z = .returned (.bool true) ∧ Below w.heap.size w w' := by
  have PA := Lib.hid (fun w => parts5_any n 1099511627776 w hn hn2 (by omega) (by omega))
  obtain ⟨m, hm⟩ : ∃ m : Int, m = 1 + (if n < 0 then -(n + 1) else n) % 1099511627776 := ⟨_, rfl⟩
  rw [← hm] at PA
  have m1 : 1 ≤ m := by rw [hm]; split <;> omega
  have m2 : m ≤ 1099511627776 := by rw [hm]; split <;> omega
  clear hm
  have EX := Lib.hid (fun w => exact_fn k m w m1 m2)
  obtain ⟨p, q, r, d, c1, c2, c3, c4, fd, od⟩ := circle_plain k m m1 m2
  generalize exC k m = x at *
  generalize exS k m = y at *
  obtain ⟨x1, x2⟩ := x
  obtain ⟨y1, y2⟩ := y
  obtain ⟨p1, p2⟩ := p
  obtain ⟨q1, q2⟩ := q
  obtain ⟨r1, r2⟩ := r
  obtain ⟨d1, d2⟩ := d
  have M1 : Hid (mulF (x1, x2) (x1, x2) = some (p1, p2)) := Lib.hid c1
  have M2 : Hid (mulF (y1, y2) (y1, y2) = some (q1, q2)) := Lib.hid c2
  have M3 : Hid (addF (p1, p2) (q1, q2) = some (r1, r2)) := Lib.hid c3
  have M4 : Hid (addF (r1, r2) (13830554455654793216, 0) = some (d1, d2)) := Lib.hid c4
  have AB := Lib.hid (fun w => abs_any d1 w fd.1)
  clear c1 c2 c3 c4 hn hn2 m1 m2
  go_enter Try.func12, Try.ntmps12
  go_wp2_with fail
  refine (PA.out _).mono ?_
  rintro z w' ⟨rfl, rfl⟩
  go_wp2_with fail
  refine (EX.out _).mono ?_
  rintro z w1 ⟨rfl, hb1⟩
  have B1 := Lib.hid ((hb1.alloc hb1.size (.cells #[.float .f64 x1, .float .f64 x2] 25)).alloc (hb1.alloc hb1.size (.cells #[.float .f64 x1, .float .f64 x2] 25)).size (.cells #[.float .f64 y1, .float .f64 y2] 25))
  have T1 := Lib.hid ((Two.new w1 (.float .f64 x1) (.float .f64 x2) 25).alloc (.cells #[.float .f64 y1, .float .f64 y2] 25))
  have T2 := Lib.hid (Two.new' (w := w1.alloc (.cells #[.float .f64 x1, .float .f64 x2] 25)) (b := w1.heap.size + 1) (by simp) (.float .f64 y1) (.float .f64 y2) 25)
  clear hb1 PA EX
  go_upto_region 2 with fail
  obtain ⟨D, hD⟩ : ∃ D, D = (w1.alloc (.cells #[.float .f64 x1, .float .f64 x2] 25)).alloc (.cells #[.float .f64 y1, .float .f64 y2] 25) := ⟨_, rfl⟩
  rw [← hD] at B1 T1 T2 ⊢
  clear hD
  have t0 := T1
  have t1 := T2
  have lz := T2.out.lt
  go_cut [7] from 15 to 23 (fun sp wx => ∃ p, sp = .pointer (some ⟨p, 0, none⟩) ∧ Two wx p (.float .f64 d1) (.float .f64 d2) ∧ D.heap.size ≤ p ∧ Below D.heap.size D wx)
  case first =>
    go_region_held3 (fun w' => w'.cell? ⟨w1.heap.size, 0, none⟩ = some (.float .f64 x1) ∧ w'.cell? ⟨w1.heap.size, 1, none⟩ = some (.float .f64 x2) ∧ w'.cell? ⟨w1.heap.size + 1, 0, none⟩ = some (.float .f64 y1) ∧ w'.cell? ⟨w1.heap.size + 1, 1, none⟩ = some (.float .f64 y2) ∧ Hid (Below D.heap.size D w'))
      (first
        | with_reducible exact skX2 t0.out t1.out (hid_drew _)
        | with_reducible exact skX2 t0.out t1.out (hid_refl _)
        | with_reducible exact skX2 t0.out t1.out (by assumption)
        | with_reducible exact skX2 t0.out t1.out (hid_alloc (by assumption))
        | with_reducible exact skX2 t0.out t1.out (hid_alloc (hid_refl _))
        | with_reducible exact skX2 t0.out t1.out (hid_alloc (hid_drew _))
        | with_reducible exact skX2 t0.out t1.out (hid_set (by assumption) (by omega))
        | with_reducible exact skX2 t0.out t1.out (hid_set (hid_alloc (by assumption)) (by omega))
        | fail)
      (first
        | (first | (go_at_call 35; refine (mul_any _ _ _ _ _ _ _ (by first | exact M1.out | exact M2.out)).mono ?_) | (go_at_call 39; refine (add_any _ _ _ _ _ _ _ (by first | exact M3.out | exact M4.out)).mono ?_);
           rintro z w' ⟨rfl, hbb⟩; have hbw := (by with_reducible exact sBX2 hbb (by assumption) : Hid (Below D.heap.size D w')); have hs := hbb.size; have hbs := hbw.out.size;
           try (with_reducible (replace hbb := undrew hbb));
           try (with_reducible (have o4 := Two.over0 o3 hbb));
           try (with_reducible (have o3 := Two.over0 o2 hbb));
           try (with_reducible (have o2 := Two.over0 o1 hbb));
           try (with_reducible (have o1 := Two.over0 k1 hbb));
           try (with_reducible (have k1 := keepA hbb));
           try (have oo := k1; have ol := oo.lt; obtain ⟨r0, r1, f0, f1⟩ := oo);
           try (have oo := o1; have ol := oo.lt; obtain ⟨r0, r1, f0, f1⟩ := oo);
           try (have oo := o2; have ol := oo.lt; obtain ⟨r0, r1, f0, f1⟩ := oo);
           try (have oo := o3; have ol := oo.lt; obtain ⟨r0, r1, f0, f1⟩ := oo);
           try (have oo := o4; have ol := oo.lt; obtain ⟨r0, r1, f0, f1⟩ := oo)))
    all_goals (go_wp2_with fail; go_meet)
    all_goals refine ⟨_, rfl, ?_, ?_, ?_⟩
    all_goals first
      | omega
      | (simp; done)
      | (simp; omega)
      | with_reducible exact Two.new _ _ _ _
      | with_reducible exact Two.new' (by simp) _ _ _
      | with_reducible exact Two.setBoth (by assumption) _ _
      | with_reducible exact (hid_alloc (by assumption)).out
      | with_reducible exact (hid_set (by assumption) (by omega)).out
      | fail
  case rest =>
    obtain ⟨p, rfl, hp, hpD, hbw⟩ := hcut
    have B2 := Lib.hid (B1.out.trans (hbw.mono B1.out.size))
    have HP := Lib.hid hp
    clear hp hbw t0 t1 T1 T2 B1
    go_wp2_with fail
    refine (wakes5_any _).mono ?_
    rintro z w3 ⟨rfl, hb⟩
    obtain ⟨r0, r1, f0, f1⟩ := HP.out.keep hb
    go_wp2_with fail
    refine (AB.out _).mono ?_
    rintro z w' ⟨rfl, rfl⟩
    go_wp2_with fail
    go_ret
    exact ⟨rfl, B2.out.trans (hb.mono B2.out.size)⟩


end Go.Proofs.Ytnpkblidlmkagaa
