/- The product of two roots of a table against a third: the errors. -/
import Derived.Test.YtnpkblidlmkagaaXX
set_option linter.unusedSimpArgs false
set_option linter.unusedVariables false
namespace Go.Proofs.Ytnpkblidlmkagaa
open Go.RowKit Fl

theorem mbQ {a b A B : Rat} (h1 : -A ≤ a) (h2 : a ≤ A) (h3 : -B ≤ b) (h4 : b ≤ B) : -(A * B) ≤ a * b ∧ a * b ≤ A * B := by
  have p1 := Rat.mul_nonneg (show 0 ≤ A - a by grind) (show 0 ≤ B - b by grind)
  have p2 := Rat.mul_nonneg (show 0 ≤ A - a by grind) (show 0 ≤ B + b by grind)
  have p3 := Rat.mul_nonneg (show 0 ≤ A + a by grind) (show 0 ≤ B - b by grind)
  have p4 := Rat.mul_nonneg (show 0 ≤ A + a by grind) (show 0 ≤ B + b by grind)
  constructor <;> grind

/-- 2^-53. -/
def uu : Rat := 1 / 9007199254740992
/-- Less than that, by far. -/
def dd : Rat := 1 / 604462909807314587353088
theorem uu_dd : 0 < uu ∧ uu ≤ 1 / 1000000000 ∧ 0 < dd ∧ dd ≤ uu * (1 / 1000000) ∧ uu * uu ≤ uu * (1 / 1000000) := by decide +kernel

structure Nr (X x a : Rat) : Prop where
  lo : -(uu * a + dd) ≤ X - x
  hi : X - x ≤ uu * a + dd
  l : -a ≤ x
  r : x ≤ a
  a0 : 0 ≤ a
  a1 : a ≤ 1001 / 1000

theorem nr_mul {X x a Y y b : Rat} (h : Nr X x a) (k : Nr Y y b) : -(2 * (uu * (a * b)) + uu * (1 / 10000)) ≤ X * Y - x * y ∧ X * Y - x * y ≤ 2 * (uu * (a * b)) + uu * (1 / 10000) := by
  obtain ⟨u0, u1, d0, d1, u2⟩ := uu_dd
  have e1 := mbQ h.lo h.hi k.l k.r
  have e2 := mbQ h.l h.r k.lo k.hi
  have e3 := mbQ h.lo h.hi k.lo k.hi
  have g1 : (uu * a + dd) * b ≤ uu * (a * b) + 2 * dd := by
    have := Rat.mul_nonneg (show 0 ≤ dd by grind) (show 0 ≤ 2 - b by have := k.a1; grind)
    grind
  have g2 : a * (uu * b + dd) ≤ uu * (a * b) + 2 * dd := by
    have := Rat.mul_nonneg (show 0 ≤ dd by grind) (show 0 ≤ 2 - a by have := h.a1; grind)
    grind
  have g3 : (uu * a + dd) * (uu * b + dd) ≤ 9 * (uu * uu) := by
    have q1 : uu * a + dd ≤ 3 * uu := by
      have := Rat.mul_nonneg (show 0 ≤ uu by grind) (show 0 ≤ 2 - a by have := h.a1; grind)
      grind
    have q2 : uu * b + dd ≤ 3 * uu := by
      have := Rat.mul_nonneg (show 0 ≤ uu by grind) (show 0 ≤ 2 - b by have := k.a1; grind)
      grind
    have q0 : 0 ≤ uu * a + dd := by
      have := Rat.mul_nonneg (show 0 ≤ uu by grind) h.a0
      grind
    have q0' : 0 ≤ uu * b + dd := by
      have := Rat.mul_nonneg (show 0 ≤ uu by grind) k.a0
      grind
    have := (mbQ (show -(3 * uu) ≤ uu * a + dd by grind) q1 (show -(3 * uu) ≤ uu * b + dd by grind) q2).2
    grind
  have e : X * Y - x * y = (X - x) * y + x * (Y - y) + (X - x) * (Y - y) := by grind
  rw [e]
  constructor <;> grind

theorem sqn (z : Rat) : 0 ≤ z * z := by
  by_cases h : 0 ≤ z
  · exact Rat.mul_nonneg h h
  · have := Rat.mul_nonneg (show 0 ≤ -z by grind) (show 0 ≤ -z by grind)
    grind
theorem sq_half {a b c d : Rat} : 2 * (a * b) + 2 * (c * d) ≤ a * a + b * b + c * c + d * d := by
  have h1 := sqn (a - b)
  have h2 := sqn (c - d)
  grind

/-- Two products, added up or the one taken from the other, against a third number. -/
theorem roots_rat {X x a Y y b X' x' a' Y' y' b' Z z P Q D R s : Rat} (h : Nr X x a) (k : Nr Y y b) (h' : Nr X' x' a') (k' : Nr Y' y' b') (hs : s = 1 ∨ s = -1)
    (q1 : a * a + a' * a' ≤ 1 + dd) (q2 : b * b + b' * b' ≤ 1 + dd) (hz : -dd ≤ x * y + s * (x' * y') - z ∧ x * y + s * (x' * y') - z ≤ dd) (z0 : -(1 + dd) ≤ z) (z1 : z ≤ 1 + dd) (hZ : -(uu * (1 + dd) + dd) ≤ Z - z ∧ Z - z ≤ uu * (1 + dd) + dd)
    (hP : ∀ B : Rat, -B ≤ X * Y → X * Y ≤ B → -(uu * B + dd) ≤ P - X * Y ∧ P - X * Y ≤ uu * B + dd) (hQ : ∀ B : Rat, -B ≤ X' * Y' → X' * Y' ≤ B → -(uu * B + dd) ≤ Q - X' * Y' ∧ Q - X' * Y' ≤ uu * B + dd)
    (hD : ∀ B : Rat, -B ≤ P + s * Q → P + s * Q ≤ B → -(uu * B + dd) ≤ D - (P + s * Q) ∧ D - (P + s * Q) ≤ uu * B + dd) (hR : ∀ B : Rat, -B ≤ D - Z → D - Z ≤ B → -(uu * B + dd) ≤ R - (D - Z) ∧ R - (D - Z) ≤ uu * B + dd) :
    -(7 * uu) ≤ R ∧ R ≤ 7 * uu := by
  obtain ⟨u0, u1, d0, d1, u2⟩ := uu_dd
  obtain ⟨m1, m2⟩ := nr_mul h k
  obtain ⟨m3, m4⟩ := nr_mul h' k'
  obtain ⟨v1, v2⟩ := mbQ h.l h.r k.l k.r
  obtain ⟨v3, v4⟩ := mbQ h'.l h'.r k'.l k'.r
  have hq := @sq_half a b a' b'
  have a0 := Rat.mul_nonneg h.a0 k.a0
  have a0' := Rat.mul_nonneg h'.a0 k'.a0
  have hsum : a * b + a' * b' ≤ 1 + dd := by grind
  generalize a * b = A at *
  generalize a' * b' = A' at *
  generalize x * y = w at *
  generalize x' * y' = w' at *
  generalize X * Y = W at *
  generalize X' * Y' = W' at *
  clear h k h' k' q1 q2 hq
  have uA : uu * A + uu * A' ≤ uu + uu * dd := by
    have := Rat.mul_nonneg (show 0 ≤ uu by grind) (show 0 ≤ 1 + dd - (A + A') by grind)
    grind
  have udd : uu * dd ≤ uu * (1 / 1000000) := by
    have := Rat.mul_nonneg (show 0 ≤ uu by grind) (show 0 ≤ 1 / 1000000 - dd by grind)
    grind
  have uA0 := Rat.mul_nonneg (show 0 ≤ uu by grind) a0
  have uA0' := Rat.mul_nonneg (show 0 ≤ uu by grind) a0'
  obtain ⟨p1, p2⟩ := hP (A + 4 * uu) (by grind) (by grind)
  obtain ⟨p3, p4⟩ := hQ (A' + 4 * uu) (by grind) (by grind)
  clear hP hQ
  have ePQ : -(3 * uu + uu * (1 / 1000)) ≤ P + s * Q - (w + s * w') ∧ P + s * Q - (w + s * w') ≤ 3 * uu + uu * (1 / 1000) := by
    rcases hs with rfl | rfl
    · constructor <;> grind
    · constructor <;> grind
  obtain ⟨f1, f2⟩ := ePQ
  obtain ⟨z2, z3⟩ := hz
  generalize P + s * Q = T at *
  generalize w + s * w' = t at *
  clear p1 p2 p3 p4 m1 m2 m3 m4 v1 v2 v3 v4 uA uA0 uA0' hsum a0 a0' hs
  obtain ⟨g1, g2⟩ := hD (1 + 5 * uu) (by grind) (by grind)
  clear hD
  have uu5 : uu * (1 + 5 * uu) ≤ uu + uu * (1 / 100000) := by grind
  obtain ⟨hZ1, hZ2⟩ := hZ
  have uu6 : uu * (1 + dd) ≤ uu + uu * (1 / 100000) := by grind
  obtain ⟨r1, r2⟩ := hR (6 * uu) (by grind) (by grind)
  have uu7 : uu * (6 * uu) ≤ uu * (1 / 100000) := by grind
  constructor <;> grind

theorem dd_small : 2003 * dl + uu * (2003 * dl) ≤ dd ∧ eps ≤ dd ∧ 128 * eps ≤ dd ∧ 9007199254740992 * uu = 1 ∧ 604462909807314587353088 * dd = 1 ∧ 0 ≤ 2003 * dl := by decide +kernel

/-- A float whose value is x times S. -/
structure FR (S : Int) (f : Nat) (x : Rat) : Prop where
  fnt : Fnt f
  v : (iv f : Rat) = (S : Rat) * x

theorem FR.of {S : Int} {f : Nat} (hS : S = ((2 ^ U : Nat) : Int)) (h : Fnt f) : ∃ x, FR S f x := by
  obtain ⟨s0, s1⟩ := S_pos hS
  have hm : (S : Rat) ≠ 0 := by grind
  exact ⟨(iv f : Rat) / S, h, by grind⟩

/-- A bound of a whole number's size. -/
theorem abs_rat {n : Int} {S x B : Rat} (hS : 0 < S) (hn : (n : Rat) = S * x) (h1 : -B ≤ x) (h2 : x ≤ B) : ((n.natAbs : Int) : Rat) ≤ S * B := by
  rcases (show (n.natAbs : Int) = n ∨ (n.natAbs : Int) = -n by omega) with e | e
  · rw [e, hn]
    have := Rat.mul_nonneg (Rat.le_of_lt hS) (show 0 ≤ B - x by grind)
    grind
  · rw [e, Rat.intCast_neg, hn]
    have := Rat.mul_nonneg (Rat.le_of_lt hS) (show 0 ≤ B + x by grind)
    grind

theorem rnd_rat {S : Int} {n : Int} {x r : Rat} (hS : (0 : Rat) < (S : Rat)) (hn : (n : Rat) = (S : Rat) * x) (hr : ((rnd n : Int) : Rat) = (S : Rat) * r) : ∀ B : Rat, -B ≤ x → x ≤ B → -(uu * B) ≤ r - x ∧ r - x ≤ uu * B := by
  intro B h1 h2
  obtain ⟨_, _, _, hu, hd, _⟩ := dd_small
  obtain ⟨u0, u1, d0, d1, u2⟩ := uu_dd
  obtain ⟨a, b⟩ := rnd_rel n
  have e53 : (2 : Int) ^ 53 = 9007199254740992 := by decide
  rw [e53] at a b
  have hb := abs_rat hS hn h1 h2
  have a' := Rat.intCast_le_intCast.2 a
  have b' := Rat.intCast_le_intCast.2 b
  have n1 : ((9007199254740992 : Int) : Rat) = 9007199254740992 := rfl
  rw [Rat.intCast_mul, Rat.intCast_sub, n1, hn, hr] at a' b'
  have c1 := Rat.le_trans a' hb
  have c2 := Rat.le_trans b' hb
  clear a' b' hb a b
  have eU : (S : Rat) * B * (9007199254740992 * uu) = S * B := by rw [hu]; grind
  constructor
  · apply Decidable.byContradiction
    intro hc
    have := Rat.mul_pos hS (show 0 < -(uu * B) - (r - x) by grind)
    grind
  · apply Decidable.byContradiction
    intro hc
    have := Rat.mul_pos hS (show 0 < (r - x) - uu * B by grind)
    grind

theorem FR.sub {S : Int} {a b : Nat} {x y : Rat} (hS : S = ((2 ^ U : Nat) : Int)) (ha : FR S a x) (hb : FR S b y) (h1 : -4 ≤ x - y) (h2 : x - y ≤ 4) : ∃ z r, fsub a b = some z ∧ FR S z r ∧ ∀ B : Rat, -B ≤ x - y → x - y ≤ B → -(uu * B + dd) ≤ r - (x - y) ∧ r - (x - y) ≤ uu * B + dd := by
  obtain ⟨s0, s1⟩ := S_pos hS
  have hv : ((iv a - iv b : Int) : Rat) = (S : Rat) * (x - y) := by rw [Rat.intCast_sub, ha.v, hb.v]; grind
  obtain ⟨g1, g2⟩ := rt_int (B := 4) s1 hv h1 h2
  obtain ⟨k1, k2⟩ := S_big hS
  obtain ⟨z, h3, h4, h5⟩ := fsub_spec ha.fnt hb.fnt (by omega)
  obtain ⟨r, hr⟩ := FR.of hS h4
  have hr' := hr.v
  rw [h5] at hr'
  obtain ⟨u0, u1, d0, d1, u2⟩ := uu_dd
  refine ⟨z, r, h3, hr, fun B h1 h2 => ?_⟩
  obtain ⟨g3, g4⟩ := rnd_rat s1 hv hr' B h1 h2
  exact ⟨by grind, by grind⟩
theorem FR.add {S : Int} {a b : Nat} {x y : Rat} (hS : S = ((2 ^ U : Nat) : Int)) (ha : FR S a x) (hb : FR S b y) (h1 : -4 ≤ x + y) (h2 : x + y ≤ 4) : ∃ z r, fadd a b = some z ∧ FR S z r ∧ ∀ B : Rat, -B ≤ x + y → x + y ≤ B → -(uu * B + dd) ≤ r - (x + y) ∧ r - (x + y) ≤ uu * B + dd := by
  obtain ⟨s0, s1⟩ := S_pos hS
  have hv : ((iv a + iv b : Int) : Rat) = (S : Rat) * (x + y) := by rw [Rat.intCast_add, ha.v, hb.v]; grind
  obtain ⟨g1, g2⟩ := rt_int (B := 4) s1 hv h1 h2
  obtain ⟨k1, k2⟩ := S_big hS
  obtain ⟨z, h3, h4, h5⟩ := fadd_spec ha.fnt hb.fnt (by omega)
  obtain ⟨r, hr⟩ := FR.of hS h4
  have hr' := hr.v
  rw [h5] at hr'
  obtain ⟨u0, u1, d0, d1, u2⟩ := uu_dd
  refine ⟨z, r, h3, hr, fun B h1 h2 => ?_⟩
  obtain ⟨g3, g4⟩ := rnd_rat s1 hv hr' B h1 h2
  exact ⟨by grind, by grind⟩

theorem FR.mul {S : Int} {a b : Nat} {x y : Rat} (hS : S = ((2 ^ U : Nat) : Int)) (ha : FR S a x) (hb : FR S b y) (h1 : -4 ≤ x * y) (h2 : x * y ≤ 4) : ∃ z r, fmul a b = some z ∧ FR S z r ∧ ∀ B : Rat, -B ≤ x * y → x * y ≤ B → -(uu * B + dd) ≤ r - x * y ∧ r - x * y ≤ uu * B + dd := by
  obtain ⟨s0, s1⟩ := S_pos hS
  obtain ⟨_, _, _, hu, hd, _⟩ := dd_small
  obtain ⟨u0, u1, d0, d1, u2⟩ := uu_dd
  have ss : (0 : Rat) < (S : Rat) * S := Rat.mul_pos s1 s1
  have hv : ((iv a * iv b : Int) : Rat) = ((S : Rat) * S) * (x * y) := by rw [Rat.intCast_mul, ha.v, hb.v]; grind
  obtain ⟨k1, k2⟩ := S_big hS
  have hN : (((iv a * iv b).natAbs : Int) : Rat) ≤ ((4 * (S * S) : Int) : Rat) := by
    have := abs_rat ss hv h1 h2
    rw [Rat.intCast_mul, Rat.intCast_mul]
    have n4 : ((4 : Int) : Rat) = 4 := rfl
    rw [n4]; grind
  have hN' := Rat.intCast_le_intCast.1 hN
  have hbd : (iv a * iv b).natAbs < 2 ^ (Bt + U) := by
    have e : ((2 ^ (Bt + U) : Nat) : Int) = ((2 ^ Bt : Nat) : Int) * S := by rw [Nat.pow_add, Int.natCast_mul, ← hS]
    have h6 : 4 * S * S < ((2 ^ Bt : Nat) : Int) * S := Int.mul_lt_mul_of_pos_right (by omega) s0
    rw [Int.mul_assoc] at h6
    omega
  obtain ⟨z, h3, h4, h5, h6⟩ := fmul_rel ha.fnt hb.fnt hbd
  obtain ⟨r, hr⟩ := FR.of hS h4
  refine ⟨z, r, h3, hr, fun B b1 b2 => ?_⟩
  have eU : (2 : Int) ^ U = S := by rw [hS, Int.natCast_pow]; rfl
  have e53 : (2 : Int) ^ 53 = 9007199254740992 := by decide
  have e52 : (2 : Int) ^ 52 = 4503599627370496 := by decide
  rw [eU, e53, e52] at h5 h6
  have hA := abs_rat ss hv b1 b2
  have a' := Rat.intCast_le_intCast.2 h5
  have b' := Rat.intCast_le_intCast.2 h6
  have n1 : ((9007199254740992 : Int) : Rat) = 9007199254740992 := rfl
  have n2 : ((4503599627370496 : Int) : Rat) = 4503599627370496 := rfl
  have hzS : ((iv z * S : Int) : Rat) = (S : Rat) * S * r := by rw [Rat.intCast_mul, hr.v]; grind
  rw [Rat.intCast_mul, Rat.intCast_sub, Rat.intCast_add, Rat.intCast_mul 4503599627370496, n1, n2, hv, hzS] at a' b'
  have hbig : (4503599627370496 : Rat) * S ≤ S * S * (9007199254740992 * dd) := by
    have k3 : (6901746346790563787434755862277025452451108972170386555162524223799296 * 4294967296 : Int) ≤ S := k1
    have k4 := Rat.intCast_le_intCast.2 k3
    have n3 : ((6901746346790563787434755862277025452451108972170386555162524223799296 : Int) : Rat) = 6901746346790563787434755862277025452451108972170386555162524223799296 := rfl
    have n4 : ((4294967296 : Int) : Rat) = 4294967296 := rfl
    rw [Rat.intCast_mul, n3, n4] at k4
    have hm := Rat.mul_nonneg (Rat.le_of_lt s1) (show (0 : Rat) ≤ S - 6901746346790563787434755862277025452451108972170386555162524223799296 * 4294967296 by grind)
    have hm2 := Rat.mul_nonneg (show (0 : Rat) ≤ S * (S - 6901746346790563787434755862277025452451108972170386555162524223799296 * 4294967296) from hm) (show (0 : Rat) ≤ 9007199254740992 * dd by grind)
    have e9 : (S : Rat) * (604462909807314587353088 * dd) = S := by rw [hd]; grind
    grind
  have c1 : (9007199254740992 : Rat) * ((S : Rat) * S * r - (S : Rat) * S * (x * y)) ≤ S * S * B + 4503599627370496 * S := by grind
  have c2 : (9007199254740992 : Rat) * ((S : Rat) * S * (x * y) - (S : Rat) * S * r) ≤ S * S * B + 4503599627370496 * S := by grind
  clear a' b' hA hN hN' h5 h6 hzS hv hbd k1 k2
  obtain ⟨q, hq⟩ : ∃ q, q = x * y := ⟨_, rfl⟩
  rw [← hq] at c1 c2 ⊢
  obtain ⟨T, hT⟩ : ∃ T, T = (S : Rat) * S := ⟨_, rfl⟩
  rw [← hT] at c1 c2 ss hbig
  have eT : T * B * (9007199254740992 * uu) = T * B := by rw [hu]; grind
  constructor
  · apply Decidable.byContradiction
    intro hc
    have := Rat.mul_pos ss (show 0 < -(uu * B + dd) - (r - q) by grind)
    grind
  · apply Decidable.byContradiction
    intro hc
    have := Rat.mul_pos ss (show 0 < (r - q) - (uu * B + dd) by grind)
    grind

end Go.Proofs.Ytnpkblidlmkagaa
