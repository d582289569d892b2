/- The product of two roots of a table against a third. -/
import Derived.Test.YtnpkblidlmkagaaK29
set_option linter.unusedSimpArgs false
set_option linter.unusedVariables false
namespace Go.Proofs.Ytnpkblidlmkagaa
open Go.RowKit Fl

theorem abs_of (x : Rat) : ∃ a : Rat, 0 ≤ a ∧ -a ≤ x ∧ x ≤ a ∧ a * a = x * x := by
  by_cases h : 0 ≤ x
  · exact ⟨x, h, by grind, by grind, rfl⟩
  · exact ⟨-x, by grind, by grind, by grind, by grind⟩

/-- The float of a number near c. -/
theorem first_nr {S : Int} {p : Nat × Nat} {f : Nat} {c : Rat} (hS : S = ((2 ^ U : Nat) : Int)) (h : Acc S p c) (ff : Fnt f) (hf : iv f = iv p.1) (hc : c * c ≤ 1 + dd) : ∃ X a, FR S f X ∧ Nr X c a ∧ a * a = c * c := by
  obtain ⟨s0, s1⟩ := S_pos hS
  obtain ⟨d1, d2, d3, hu, hd, d4⟩ := dd_small
  obtain ⟨u0, u1, e0, e1, u2⟩ := uu_dd
  obtain ⟨q, hq, q1, q2⟩ := h.rt hS
  obtain ⟨v, ok, hv⟩ := hq.out
  obtain ⟨X, hX⟩ := FR.of hS ff
  obtain ⟨a, a0, a1, a2, a3⟩ := abs_of c
  have hX' := hX.v
  rw [hf, ← ok.neat] at hX'
  have hr := rnd_rat s1 hv hX' (a + 2003 * dl) (by grind) (by grind)
  obtain ⟨r1, r2⟩ := hr
  refine ⟨X, a, hX, ⟨?_, ?_, a1, a2, a0, ?_⟩, a3⟩
  · grind
  · grind
  · apply Decidable.byContradiction
    intro hn
    have := Rat.mul_nonneg (show 0 ≤ a - 1001 / 1000 by grind) (show 0 ≤ a - 1001 / 1000 by grind)
    grind

theorem le_one {a : Rat} (a0 : 0 ≤ a) (h : a * a ≤ 1 + dd) : a ≤ 1 + dd := by
  obtain ⟨u0, u1, e0, e1, u2⟩ := uu_dd
  apply Decidable.byContradiction
  intro hn
  have := Rat.mul_pos (show 0 < a - (1 + dd) by grind) (show 0 < a + (1 + dd) by grind)
  have := Rat.mul_nonneg (Rat.le_of_lt e0) (Rat.le_of_lt e0)
  grind

/-- Cosine and sine of a part of a turn, as floats, as numbers. -/
theorem tu_nr {S D : Int} (hS : S = ((2 ^ U : Nat) : Int)) (hSD : S = 1329227995784915872903807060280344576 * D) (hD : 0 < D) (k n : Int) (n1 : 1 ≤ n) (n2 : n ≤ 1099511627776) :
    ∃ X a Y b, FR S (tuC k n) X ∧ Nr X (co (ang k n)) a ∧ FR S (tuS k n) Y ∧ Nr Y (si (ang k n)) b ∧ a * a + b * b ≤ 1 + dd ∧ a ≤ 1 + dd ∧ b ≤ 1 + dd := by
  obtain ⟨ac, az⟩ := ex_acc hS hSD hD k n n1 n2
  obtain ⟨a0, a1⟩ := ang_bd k n n1
  obtain ⟨h1, h2⟩ := circle (x := ang k n) (by grind) a1
  obtain ⟨_, fc, fs, vc, vs⟩ := turn_fn k n n1 n2
  obtain ⟨d1, d2, d3, hu, hd, d4⟩ := dd_small
  obtain ⟨u0, u1, e0, e1, u2⟩ := uu_dd
  have q1 := sqn (co (ang k n))
  have q2 := sqn (si (ang k n))
  obtain ⟨X, a, hX, nX, sX⟩ := first_nr hS ac fc vc (by grind)
  obtain ⟨Y, b, hY, nY, sY⟩ := first_nr hS az fs vs (by grind)
  exact ⟨X, a, Y, b, hX, nX, hY, nY, by grind, le_one nX.a0 (by grind), le_one nY.a0 (by grind)⟩

set_option maxRecDepth 100000 in
theorem iv50 {S : Int} (hS : S = ((2 ^ U : Nat) : Int)) : 1125899906842624 * iv 4382002437431492608 = S ∧ 1125899906842624 * iv 13605374474286268416 = -S := by
  obtain ⟨E, hE⟩ : ∃ E : Nat, E = 972 := ⟨_, rfl⟩
  have h : D.read 4382002437431492608 = .number false 4503599627370496 ((E : Int) - 1074) := by rw [hE]; decide +kernel
  have hU : U = 102 + E := by rw [U_eq, hE]
  have f1 : Fnt 4382002437431492608 := by decide +kernel
  have e1 : 1125899906842624 * iv 4382002437431492608 = S := by
    rw [iv_signed h, signed_eq, hS, hU, Nat.pow_add, Int.natCast_mul, Int.natCast_pow 2 E]
    simp only [Bool.false_eq_true, if_false, Int.one_mul]
    rw [show ((2 ^ 102 : Nat) : Int) = 1125899906842624 * 4503599627370496 from rfl, Int.mul_assoc]
    rfl
  have e2 : iv 13605374474286268416 = - iv 4382002437431492608 := by
    have := (fneg_spec f1).2
    have e3 : fneg 4382002437431492608 = 13605374474286268416 := by decide +kernel
    rw [e3] at this
    exact this
  refine ⟨e1, ?_⟩
  rw [e2]; omega

theorem FR.less {S : Int} {f : Nat} {x : Rat} (hS : S = ((2 ^ U : Nat) : Int)) (h : FR S f x) (h1 : -(7 * uu) ≤ x) (h2 : x ≤ 7 * uu) : (FloatKind.f64.format.order f 4382002437431492608 == some Ordering.lt) = true ∧ (FloatKind.f64.format.order f 13605374474286268416 == some Ordering.gt) = true := by
  obtain ⟨s0, s1⟩ := S_pos hS
  obtain ⟨d1, d2, d3, hu, hd, d4⟩ := dd_small
  obtain ⟨i1, i2⟩ := iv50 hS
  have hv := h.v
  have b1 : ((1125899906842624 * iv f : Int) : Rat) < ((S : Int) : Rat) := by
    have n1 : ((1125899906842624 : Int) : Rat) = 1125899906842624 := rfl
    rw [Rat.intCast_mul, n1, hv]
    have := Rat.mul_nonneg (Rat.le_of_lt s1) (show 0 ≤ 7 * uu - x by grind)
    have e : (S : Rat) * (9007199254740992 * uu) = S := by rw [hu]; grind
    grind
  have b2 : ((-S : Int) : Rat) < ((1125899906842624 * iv f : Int) : Rat) := by
    have n1 : ((1125899906842624 : Int) : Rat) = 1125899906842624 := rfl
    rw [Rat.intCast_mul, n1, hv, Rat.intCast_neg]
    have := Rat.mul_nonneg (Rat.le_of_lt s1) (show 0 ≤ 7 * uu + x by grind)
    have e : (S : Rat) * (9007199254740992 * uu) = S := by rw [hu]; grind
    grind
  have c1 := Rat.intCast_lt_intCast.1 b1
  have c2 := Rat.intCast_lt_intCast.1 b2
  have f1 : Fnt 4382002437431492608 := by decide +kernel
  have f2 : Fnt 13605374474286268416 := by decide +kernel
  constructor
  · show (D.order f _ == some .lt) = true
    rw [(order_bool h.fnt f1).2.1]
    simp
    omega
  · show (D.order f _ == some .gt) = true
    rw [(order_bool h.fnt f2).2.2]
    simp
    omega

theorem roots_plain (a b n : Int) (n1 : 1 ≤ n) (n2 : n ≤ 1099511627776) : ∃ P Q D R P' Q' D' R', fmul (tuC a n) (tuC b n) = some P ∧ fmul (tuS a n) (tuS b n) = some Q ∧ fsub P Q = some D ∧ fmul (tuC a n) (tuS b n) = some P' ∧ fmul (tuS a n) (tuC b n) = some Q' ∧ fadd P' Q' = some D' ∧ fsub D (tuC (a + b) n) = some R ∧ fsub D' (tuS (a + b) n) = some R' ∧
    (FloatKind.f64.format.order R 4382002437431492608 == some Ordering.lt) = true ∧ (FloatKind.f64.format.order R 13605374474286268416 == some Ordering.gt) = true ∧ (FloatKind.f64.format.order R' 4382002437431492608 == some Ordering.lt) = true ∧ (FloatKind.f64.format.order R' 13605374474286268416 == some Ordering.gt) = true := by
  obtain ⟨q, D, S, hq, hD, hS, hSD, hp⟩ := unit_D'
  obtain ⟨X1, a1, Y1, b1, fX1, nX1, fY1, nY1, s1, _, _⟩ := tu_nr hS hSD hp a n n1 n2
  obtain ⟨X2, a2, Y2, b2, fX2, nX2, fY2, nY2, s2, _, _⟩ := tu_nr hS hSD hp b n n1 n2
  obtain ⟨X3, a3, Y3, b3, fX3, nX3, fY3, nY3, s3, w3, z3⟩ := tu_nr hS hSD hp (a + b) n n1 n2
  obtain ⟨⟨g1, g2⟩, g3, g4⟩ := ang_add a b n n1
  obtain ⟨d1, d2, d3, hu, hd, d4⟩ := dd_small
  obtain ⟨u0, u1, e0, e1, u2⟩ := uu_dd
  have big : ∀ {X x a Y y b : Rat}, Nr X x a → Nr Y y b → -(11 / 10) ≤ X * Y ∧ X * Y ≤ 11 / 10 := by
    intro X x a Y y b h k
    have c1 : -(1002 / 1000) ≤ X ∧ X ≤ 1002 / 1000 := by
      have h1 := h.lo; have h2 := h.hi; have h3 := h.l; have h4 := h.r; have h5 := h.a1; have h6 := h.a0
      have := Rat.mul_nonneg (show 0 ≤ uu by grind) (show 0 ≤ 2 - a by grind)
      constructor <;> grind
    have c2 : -(1002 / 1000) ≤ Y ∧ Y ≤ 1002 / 1000 := by
      have h1 := k.lo; have h2 := k.hi; have h3 := k.l; have h4 := k.r; have h5 := k.a1; have h6 := k.a0
      have := Rat.mul_nonneg (show 0 ≤ uu by grind) (show 0 ≤ 2 - b by grind)
      constructor <;> grind
    obtain ⟨m1, m2⟩ := mbQ c1.1 c1.2 c2.1 c2.2
    constructor <;> grind
  have one : ∀ {X x a : Rat}, Nr X x a → -(1002 / 1000) ≤ X ∧ X ≤ 1002 / 1000 := by
    intro X x a h
    have h1 := h.lo; have h2 := h.hi; have h3 := h.l; have h4 := h.r; have h5 := h.a1; have h6 := h.a0
    have := Rat.mul_nonneg (show 0 ≤ uu by grind) (show 0 ≤ 2 - a by grind)
    constructor <;> grind
  obtain ⟨m1, m2⟩ := big nX1 nX2
  obtain ⟨m3, m4⟩ := big nY1 nY2
  obtain ⟨m5, m6⟩ := big nX1 nY2
  obtain ⟨m7, m8⟩ := big nY1 nX2
  obtain ⟨P, p, hP, fP, eP⟩ := FR.mul hS fX1 fX2 (by grind) (by grind)
  obtain ⟨Q, q', hQ, fQ, eQ⟩ := FR.mul hS fY1 fY2 (by grind) (by grind)
  obtain ⟨P', p', hP', fP', eP'⟩ := FR.mul hS fX1 fY2 (by grind) (by grind)
  obtain ⟨Q', q'', hQ', fQ', eQ'⟩ := FR.mul hS fY1 fX2 (by grind) (by grind)
  have w1 := eP (11 / 10) m1 m2
  have w2 := eQ (11 / 10) m3 m4
  have w4 := eP' (11 / 10) m5 m6
  have w5 := eQ' (11 / 10) m7 m8
  obtain ⟨E, d, hE, fE, eE⟩ := FR.sub hS fP fQ (by grind) (by grind)
  obtain ⟨E', d', hE', fE', eE'⟩ := FR.add hS fP' fQ' (by grind) (by grind)
  have w6 := eE 3 (by grind) (by grind)
  have w7 := eE' 3 (by grind) (by grind)
  have o3 := one nX3
  have o4 := one nY3
  obtain ⟨R, r, hR, fR, eR⟩ := FR.sub hS fE fX3 (by grind) (by grind)
  obtain ⟨R', r', hR', fR', eR'⟩ := FR.sub hS fE' fY3 (by grind) (by grind)
  have zz : ∀ {Z z c : Rat}, Nr Z z c → c ≤ 1 + dd → (-(1 + dd) ≤ z ∧ z ≤ 1 + dd) ∧ -(uu * (1 + dd) + dd) ≤ Z - z ∧ Z - z ≤ uu * (1 + dd) + dd := by
    intro Z z c h hc
    have h1 := h.lo; have h2 := h.hi; have h3 := h.l; have h4 := h.r
    have := Rat.mul_nonneg (show 0 ≤ uu by grind) (show 0 ≤ 1 + dd - c by grind)
    refine ⟨⟨?_, ?_⟩, ?_, ?_⟩ <;> grind
  obtain ⟨⟨y1, y2⟩, y3⟩ := zz nX3 w3
  obtain ⟨⟨y4, y5⟩, y6⟩ := zz nY3 z3
  have main1 := roots_rat (R := r) (D := d) (P := p) (Q := q') (s := -1) nX1 nX2 nY1 nY2 (.inr rfl) s1 s2 (by constructor <;> grind) y1 y2 y3 eP eQ (fun B h1 h2 => by have := eE B (by grind) (by grind); constructor <;> grind) eR
  have main2 := roots_rat (R := r') (D := d') (P := p') (Q := q'') (s := 1) nX1 nY2 nY1 nX2 (.inl rfl) s1 (by grind) (by constructor <;> grind) y4 y5 y6 eP' eQ' (fun B h1 h2 => by have := eE' B (by grind) (by grind); constructor <;> grind) eR'
  obtain ⟨k1, k2⟩ := fR.less hS main1.1 main1.2
  obtain ⟨k3, k4⟩ := fR'.less hS main2.1 main2.2
  exact ⟨P, Q, E, R, P', Q', E', R', hP, hQ, hE, hP', hQ', hE', hR, hR', k1, k2, k3, k4⟩

end Go.Proofs.Ytnpkblidlmkagaa
