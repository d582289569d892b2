/- The program's series against the document's: term by term, in whole units. -/
import Derived.Test.YtnpkblidlmkagaaGX
import Derived.Test.YtnpkblidlmkagaaRA
set_option linter.unusedSimpArgs false
set_option linter.unusedVariables false
namespace Go.Proofs.Ytnpkblidlmkagaa
open Fl

theorem mb {a b A B : Int} (h1 : -A ≤ a) (h2 : a ≤ A) (h3 : -B ≤ b) (h4 : b ≤ B) : -(A * B) ≤ a * b ∧ a * b ≤ A * B := by
  have ha : (a.natAbs : Int) ≤ A := by omega
  have hb : (b.natAbs : Int) ≤ B := by omega
  have h := Int.mul_le_mul ha hb (by omega) (by omega)
  rw [← Int.natCast_mul, ← Int.natAbs_mul] at h
  omega

/-- The program's side of a round. -/
theorem cmp_prog {S K X Z T T' P u m : Int} (hS : 0 < S)
    (u1 : u * S - T * (-P) ≤ 16 * (K * S)) (u2 : -(16 * (K * S)) ≤ u * S - T * (-P))
    (v1 : m * T' - u ≤ 256 * K) (v2 : -(256 * K) ≤ m * T' - u)
    (p1 : P * S - X * X ≤ 16 * (K * S)) (p2 : -(16 * (K * S)) ≤ P * S - X * X)
    (T1 : T ≤ S) (T2 : -S ≤ T) (Z0 : 0 ≤ Z) (Z1 : Z ≤ S) :
    -(288 * (K * S * S) * S) ≤ (m * T' * (S * S) + T * (X * X)) * Z ∧ (m * T' * (S * S) + T * (X * X)) * Z ≤ 288 * (K * S * S) * S := by
  have c1 : -(272 * (K * S)) ≤ m * T' * S + T * P ∧ m * T' * S + T * P ≤ 272 * (K * S) := by
    have q1 := Int.mul_le_mul_of_nonneg_right v1 (show 0 ≤ S by omega)
    have q2 := Int.mul_le_mul_of_nonneg_right v2 (show 0 ≤ S by omega)
    constructor <;> grind
  have c2 := mb T2 T1 p2 p1
  have c3 : -(288 * (K * S * S)) ≤ m * T' * (S * S) + T * (X * X) ∧ m * T' * (S * S) + T * (X * X) ≤ 288 * (K * S * S) := by
    have q1 := Int.mul_le_mul_of_nonneg_right c1.1 (show 0 ≤ S by omega)
    have q2 := Int.mul_le_mul_of_nonneg_right c1.2 (show 0 ≤ S by omega)
    clear c1 u1 u2 v1 v2 p1 p2
    constructor <;> grind
  exact mb c3.1 c3.2 (show -S ≤ Z by omega) Z1

theorem cmp_doc1 {S Y a b t0 t1 t2 : Int} (a1 : a * t1 * S ≤ t0 * Y) (b1 : b * t2 * S ≤ t1 * Y) (Y0 : 0 ≤ Y) (hS : 0 ≤ S) (a0 : 0 ≤ a) : a * b * t2 * (S * S) ≤ t0 * (Y * Y) := by
  have q1 := Int.mul_le_mul_of_nonneg_right a1 Y0
  have q2 := Int.mul_le_mul_of_nonneg_right b1 (show 0 ≤ a * S from Int.mul_nonneg a0 hS)
  clear a1 b1
  grind

theorem cmp_doc2 {S Y K D a b t0 t1 t2 : Int} (a2 : t0 * Y ≤ a * (t1 + D) * S) (b2 : t1 * Y ≤ b * (t2 + D) * S) (Y0 : 0 ≤ Y) (YS : Y ≤ S) (hS : 0 ≤ S) (a0 : 0 ≤ a) (hD : (a * b + a) * D ≤ K) (hD0 : 0 ≤ D) :
    t0 * (Y * Y) ≤ a * b * t2 * (S * S) + K * (S * S) := by
  have q1 := Int.mul_le_mul_of_nonneg_right a2 Y0
  have q2 := Int.mul_le_mul_of_nonneg_right b2 (show 0 ≤ a * S from Int.mul_nonneg a0 hS)
  have q3 := Int.mul_le_mul_of_nonneg_right hD (show 0 ≤ S * S from Int.mul_nonneg hS hS)
  have q4 := Int.mul_le_mul_of_nonneg_right YS (show 0 ≤ a * D * S from Int.mul_nonneg (Int.mul_nonneg a0 hD0) hS)
  clear a2 b2 YS Y0 hD
  grind

theorem cmp_id1 (S K X Y Z T T' m t0 t2 B : Int) : 100 * (m * (T' * Z + 1 * (t2 * S))) * (S * S) = 100 * ((m * T' * (S * S) + T * (X * X)) * Z) - 100 * ((T * Z - 1 * (t0 * S)) * (X * X)) - (X - Y) * (100 * (X + Y)) * t0 * S - 100 * ((t0 * (Y * Y) - m * t2 * (S * S)) * S) := by grind
theorem cmp_id2 (S K X Y Z T T' m t0 t2 B : Int) : 100 * (m * (T' * Z + -1 * (t2 * S))) * (S * S) = 100 * ((m * T' * (S * S) + T * (X * X)) * Z) - 100 * ((T * Z - -1 * (t0 * S)) * (X * X)) + (X - Y) * (100 * (X + Y)) * t0 * S + 100 * ((t0 * (Y * Y) - m * t2 * (S * S)) * S) := by grind
theorem cmp_id3 (S K B : Int) : (63 * B + 110100) * (K * S) * (S * S) = 63 * (B * (K * S) * (S * S)) + 28800 * (K * S * S * S) + 81300 * (K * S * S * S) := by grind
theorem cmp_id4 (S K X t0 d Y : Int) : d * (10000 * (X * X)) = 100 * (100 * (d * (X * X))) ∧ (513 * K * (158 * S) * S) * S = 81054 * (K * S * S * S) ∧ 288 * (K * S * S) * S = 288 * (K * S * S * S) ∧ K * (S * S) * S = K * S * S * S := by grind
theorem cmp_xx {X S : Int} (X0 : 0 ≤ X) (X1 : 100 * X ≤ 79 * S) : 10000 * (X * X) ≤ 6241 * (S * S) := by
  have := Int.mul_le_mul X1 X1 (by omega) (by omega)
  clear X1 X0
  grind
theorem cmp_id5 (S K B : Int) : B * (K * S) * (6241 * (S * S)) = 6241 * (B * (K * S) * (S * S)) ∧ (513 * K * (158 * S) * S) * S = 81054 * (K * S * S * S) ∧ 288 * (K * S * S) * S = 288 * (K * S * S * S) ∧ K * (S * S) * S = K * S * S * S := by grind
theorem cmp_id6 (X d : Int) : d * (10000 * (X * X)) = 10000 * (d * (X * X)) := by grind

/-- One round: the program's term against the document's. s is a sign. -/
theorem cmp_step {S K D X Y Z T T' P u a b t0 t1 t2 s B : Int} (hS : 0 < S) (hK : 0 ≤ K) (hs : s = 1 ∨ s = -1)
    (u1 : u * S - T * (-P) ≤ 16 * (K * S)) (u2 : -(16 * (K * S)) ≤ u * S - T * (-P))
    (v1 : a * b * T' - u ≤ 256 * K) (v2 : -(256 * K) ≤ a * b * T' - u)
    (p1 : P * S - X * X ≤ 16 * (K * S)) (p2 : -(16 * (K * S)) ≤ P * S - X * X)
    (T1 : T ≤ S) (T2 : -S ≤ T) (Z0 : 0 ≤ Z) (Z1 : Z ≤ S)
    (X0 : 0 ≤ X) (X1 : 100 * X ≤ 79 * S) (Y0 : 0 ≤ Y) (Y1 : 100 * Y ≤ 79 * S) (e1 : X - Y ≤ 513 * K) (e2 : -(513 * K) ≤ X - Y)
    (a0 : 0 ≤ a) (hD : (a * b + a) * D ≤ K) (hD0 : 0 ≤ D)
    (a1 : a * t1 * S ≤ t0 * Y) (a2 : t0 * Y ≤ a * (t1 + D) * S) (b1 : b * t2 * S ≤ t1 * Y) (b2 : t1 * Y ≤ b * (t2 + D) * S)
    (t00 : 0 ≤ t0) (t0S : t0 ≤ S)
    (d1 : T * Z - s * (t0 * S) ≤ B * (K * S)) (d2 : -(B * (K * S)) ≤ T * Z - s * (t0 * S)) (hB : 0 ≤ B) :
    100 * (a * b * (T' * Z + s * (t2 * S))) ≤ (63 * B + 110100) * (K * S) ∧ -((63 * B + 110100) * (K * S)) ≤ 100 * (a * b * (T' * Z + s * (t2 * S))) := by
  have KS : 0 ≤ K * S := Int.mul_nonneg hK (by omega)
  have SS : 0 ≤ S * S := Int.mul_nonneg (by omega) (by omega)
  have KSSS : 0 ≤ K * S * S * S := Int.mul_nonneg (Int.mul_nonneg KS (by omega)) (by omega)
  have c4 := cmp_prog hS u1 u2 v1 v2 p1 p2 T1 T2 Z0 Z1
  have x2 := mb (show -(513 * K) ≤ X - Y by omega) e1 (show -(158 * S) ≤ 100 * (X + Y) by omega) (by omega)
  have c5 := mb x2.1 x2.2 (show -S ≤ t0 by omega) t0S
  have c5l := Int.mul_le_mul_of_nonneg_right c5.1 (show 0 ≤ S by omega)
  have c5r := Int.mul_le_mul_of_nonneg_right c5.2 (show 0 ≤ S by omega)
  have xx : 0 ≤ X * X := Int.mul_nonneg X0 X0
  have xx2 := cmp_xx X0 X1
  have c6 := mb d2 d1 (show -(6241 * (S * S)) ≤ 10000 * (X * X) by omega) xx2
  have y1 := cmp_doc1 a1 b1 Y0 (show 0 ≤ S by omega) a0
  have y2 := cmp_doc2 a2 b2 Y0 (show Y ≤ S by omega) (show 0 ≤ S by omega) a0 hD hD0
  have z1 := Int.mul_le_mul_of_nonneg_right (show 0 ≤ t0 * (Y * Y) - a * b * t2 * (S * S) by omega) (show 0 ≤ S by omega)
  have z2 := Int.mul_le_mul_of_nonneg_right (show t0 * (Y * Y) - a * b * t2 * (S * S) ≤ K * (S * S) by omega) (show 0 ≤ S by omega)
  have BK : 0 ≤ B * (K * S) * (S * S) := Int.mul_nonneg (Int.mul_nonneg hB KS) SS
  have hSS : 0 < S * S := Int.mul_pos hS hS
  obtain ⟨i1, i2, i3, i4⟩ := cmp_id5 S K B
  have i5 := cmp_id6 X (T * Z - s * (t0 * S))
  rw [i5, i1] at c6
  rw [i3] at c4
  rw [i4] at z2
  rw [Int.neg_mul, i2] at c5l
  rw [i2] at c5r
  rw [Int.zero_mul] at z1
  have i7 := cmp_id3 S K B
  suffices h : 100 * (a * b * (T' * Z + s * (t2 * S))) * (S * S) ≤ (63 * B + 110100) * (K * S) * (S * S) ∧ -((63 * B + 110100) * (K * S) * (S * S)) ≤ 100 * (a * b * (T' * Z + s * (t2 * S))) * (S * S) by
    refine ⟨Int.le_of_mul_le_mul_right h.1 hSS, Int.le_of_mul_le_mul_right ?_ hSS⟩
    rw [Int.neg_mul]; exact h.2
  rw [i7]
  rcases hs with rfl | rfl
  · rw [cmp_id1 S K X Y Z T T' (a * b) t0 t2 B]
    generalize (a * b * T' * (S * S) + T * (X * X)) * Z = v1 at *
    generalize (T * Z - 1 * (t0 * S)) * (X * X) = v2 at *
    generalize (X - Y) * (100 * (X + Y)) * t0 * S = v3 at *
    generalize (t0 * (Y * Y) - a * b * t2 * (S * S)) * S = v4 at *
    generalize B * (K * S) * (S * S) = v5 at *
    generalize K * S * S * S = v6 at *
    clear a1 a2 b1 b2 y1 y2 d1 d2 u1 u2 p1 p2
    omega
  · rw [cmp_id2 S K X Y Z T T' (a * b) t0 t2 B]
    generalize (a * b * T' * (S * S) + T * (X * X)) * Z = v1 at *
    generalize (T * Z - -1 * (t0 * S)) * (X * X) = v2 at *
    generalize (X - Y) * (100 * (X + Y)) * t0 * S = v3 at *
    generalize (t0 * (Y * Y) - a * b * t2 * (S * S)) * S = v4 at *
    generalize B * (K * S) * (S * S) = v5 at *
    generalize K * S * S * S = v6 at *
    clear a1 a2 b1 b2 y1 y2 d1 d2 u1 u2 p1 p2
    omega
def sg : Nat → Int
  | 0 => 1
  | k + 1 => - sg k
theorem sg_one : ∀ k, sg k = 1 ∨ sg k = -1
  | 0 => .inl rfl
  | k + 1 => by
    show - sg k = 1 ∨ - sg k = -1
    rcases sg_one k with h | h <;> rw [h] <;> decide

/-- Bounds of the differences of terms, and of sums. -/
def bt (f : Nat) : Nat → Int
  | 0 => 513 * f
  | k + 1 => (63 * bt f k + 110100) / (100 * (((f : Int) + 1 + 2 * k) * ((f : Int) + 1 + 2 * k + 1))) + 1
def ep (f : Nat) : Nat → Int
  | 0 => bt f 0
  | k + 1 => ep f k + bt f (k + 1) + 64

/-- The document's sums, signs in turns. -/
def al (t : Nat → Int) (f : Nat) : Nat → Int
  | 0 => t f
  | k + 1 => al t f k + sg (k + 1) * t (f + 2 * (k + 1))

/-- The document's terms. -/
structure DocT (S D Y : Int) (t : Nat → Int) : Prop where
  a1 : ∀ i : Nat, ((i : Int) + 1) * t (i + 1) * S ≤ t i * Y
  a2 : ∀ i : Nat, t i * Y ≤ ((i : Int) + 1) * (t (i + 1) + D) * S
  n0 : ∀ i, 0 ≤ t i
  n1 : ∀ i, t i ≤ S

theorem bt_nonneg (f : Nat) : ∀ k, 0 ≤ bt f k
  | 0 => by show 0 ≤ 513 * (f : Int); omega
  | k + 1 => by
    have h := bt_nonneg f k
    have h2 : 0 ≤ (63 * bt f k + 110100) / (100 * (((f : Int) + 1 + 2 * k) * ((f : Int) + 1 + 2 * k + 1))) :=
      Int.ediv_nonneg (by omega) (Int.mul_nonneg (by omega) (Int.mul_nonneg (by omega) (by omega)))
    show 0 ≤ _ / _ + 1
    omega

theorem div_bd {N M d C : Int} (hM : 0 < M) (hC : 0 ≤ C) (h1 : 100 * (M * d) ≤ N * C) (h2 : -(N * C) ≤ 100 * (M * d)) : d ≤ (N / (100 * M) + 1) * C ∧ -((N / (100 * M) + 1) * C) ≤ d := by
  obtain ⟨q, hq⟩ : ∃ q, q = N / (100 * M) := ⟨_, rfl⟩
  have h3 : N ≤ (100 * M) * (q + 1) := by
    have := Int.lt_mul_ediv_self_add (x := N) (k := 100 * M) (by omega)
    rw [← hq] at this
    rw [Int.mul_add]; omega
  have h4 := Int.mul_le_mul_of_nonneg_right h3 hC
  rw [← hq]
  have hM1 : 0 < 100 * M := by omega
  have e1 : 100 * (M * d) = (100 * M) * d := by rw [Int.mul_assoc]
  have e2 : 100 * M * (q + 1) * C = (100 * M) * ((q + 1) * C) := by rw [Int.mul_assoc]
  rw [e1] at h1 h2
  rw [e2] at h4
  constructor
  · exact Int.le_of_mul_le_mul_left (by omega) hM1
  · exact Int.le_of_mul_le_mul_left (a := 100 * M) (by rw [Int.mul_neg]; omega) hM1

theorem k_scale {S K x : Int} (hSK : S = 1267650600228229401496703205376 * K) :
   (∀ y, 79228162514264337593543950336 * y ≤ S * S → y ≤ 16 * (K * S)) ∧ (∀ y, -(S * S) ≤ 79228162514264337593543950336 * y → -(16 * (K * S)) ≤ y) ∧
   (∀ y, 9903520314283042199192993792 * y ≤ 2 * S → y ≤ 256 * K) ∧ (∀ y, -(2 * S) ≤ 9903520314283042199192993792 * y → -(256 * K) ≤ y) ∧
   (∀ y, 79228162514264337593543950336 * y ≤ 4 * S → y ≤ 64 * K) ∧ (∀ y, -(4 * S) ≤ 79228162514264337593543950336 * y → -(64 * K) ≤ y) := by
  have e : S * S = 1267650600228229401496703205376 * (K * S) := by
    have h : S * S = 1267650600228229401496703205376 * K * S := congrArg (· * S) hSK
    rw [h, Int.mul_assoc]
  rw [e]
  refine ⟨fun y h => ?_, fun y h => ?_, fun y h => ?_, fun y h => ?_, fun y h => ?_, fun y h => ?_⟩
  · generalize K * S = a at *; clear e; omega
  · generalize K * S = a at *; clear e; omega
  · rw [hSK] at h; omega
  · rw [hSK] at h; omega
  · rw [hSK] at h; omega
  · rw [hSK] at h; omega

theorem T_small {S Q T u T' m : Int} (hS : 0 < S) (hQ : 10 * (Q.natAbs : Int) ≤ 7 * S) (hm : 2 ≤ m) (hT : (T.natAbs : Int) ≤ S)
    (u1 : 79228162514264337593543950336 * (u * S - T * Q) ≤ S * S) (u2 : -(S * S) ≤ 79228162514264337593543950336 * (u * S - T * Q))
    (t1 : 9903520314283042199192993792 * (m * T' - u) ≤ 2 * S) (t2 : -(2 * S) ≤ 9903520314283042199192993792 * (m * T' - u)) : (T'.natAbs : Int) ≤ S := by
  have hu := prod_small hS hQ u1 u2
  have h := term_small hm hu hS t1 t2
  omega

theorem cmp_all {S K D X Y Z P : Int} {f R : Nat} {T W t : Nat → Int} (hS : 0 < S) (hSK : S = 1267650600228229401496703205376 * K) (hK : K = 1048576 * D) (hf : f ≤ 1) (hR : R ≤ 15)
    (hp1 : 79228162514264337593543950336 * (P * S - X * X) ≤ S * S) (hp2 : -(S * S) ≤ 79228162514264337593543950336 * (P * S - X * X))
    (hQ : 10 * (P.natAbs : Int) ≤ 7 * S) (hT : SerAll S (-P) f R T W) (Z0 : 0 ≤ Z) (Z1 : Z ≤ S)
    (X0 : 0 ≤ X) (X1 : 100 * X ≤ 79 * S) (Y0 : 0 ≤ Y) (Y1 : 100 * Y ≤ 79 * S) (e1 : X - Y ≤ 513 * K) (e2 : -(513 * K) ≤ X - Y)
    (ht : DocT S D Y t) (s1 : S * Z - t f * S ≤ bt f 0 * (K * S)) (s2 : -(bt f 0 * (K * S)) ≤ S * Z - t f * S) :
    ∀ k, k ≤ R → ((T k).natAbs : Int) ≤ S ∧ (T k * Z - sg k * (t (f + 2 * k) * S) ≤ bt f k * (K * S) ∧ -(bt f k * (K * S)) ≤ T k * Z - sg k * (t (f + 2 * k) * S)) ∧
      (W k * Z - al t f k * S ≤ ep f k * (K * S) ∧ -(ep f k * (K * S)) ≤ W k * Z - al t f k * S) := by
  have hK0 : 0 ≤ K := by omega
  have KS : 0 ≤ K * S := Int.mul_nonneg hK0 (by omega)
  obtain ⟨k1, k2, k3, k4, k5, k6⟩ := k_scale (x := 0) hSK
  intro k
  induction k with
  | zero =>
    intro _
    rw [hT.t0, hT.w0]
    refine ⟨by omega, ?_, ?_⟩
    · show S * Z - 1 * (t f * S) ≤ _ ∧ _ ≤ S * Z - 1 * (t f * S)
      rw [Int.one_mul]; exact ⟨s1, s2⟩
    · exact ⟨s1, s2⟩
  | succ k ih =>
    intro hk
    obtain ⟨i1, ⟨i2, i3⟩, i4, i5⟩ := ih (by omega)
    obtain ⟨⟨u, u1, u2, v1, v2⟩, w1, w2⟩ := hT.rel k (by omega)
    have m2 : 2 ≤ ((f : Int) + 1 + 2 * k) * ((f : Int) + 1 + 2 * k + 1) := by
      have := Int.mul_le_mul (show (1 : Int) ≤ (f : Int) + 1 + 2 * k by omega) (show (2 : Int) ≤ (f : Int) + 1 + 2 * k + 1 by omega) (by omega) (by omega)
      omega
    have m3 : ((f : Int) + 1 + 2 * k) * ((f : Int) + 1 + 2 * k + 1) + ((f : Int) + 1 + 2 * k) ≤ 1048576 := by
      have := Int.mul_le_mul (show (f : Int) + 1 + 2 * k ≤ 40 by omega) (show (f : Int) + 1 + 2 * k + 1 ≤ 40 by omega) (by omega) (by omega)
      omega
    have tb := T_small hS (by rw [Int.natAbs_neg]; exact hQ) m2 i1 u1 u2 v1 v2
    have A1 := ht.a1 (f + 2 * k)
    have A2 := ht.a2 (f + 2 * k)
    have B1 := ht.a1 (f + 2 * k + 1)
    have B2 := ht.a2 (f + 2 * k + 1)
    have ea : ((f + 2 * k : Nat) : Int) + 1 = (f : Int) + 1 + 2 * k := by omega
    have eb : ((f + 2 * k + 1 : Nat) : Int) + 1 = (f : Int) + 1 + 2 * k + 1 := by omega
    rw [ea] at A1 A2
    rw [eb] at B1 B2
    have hc := cmp_step (D := D) hS hK0 (sg_one k) (k1 _ u1) (k2 _ u2) (k3 _ v1) (k4 _ v2) (k1 _ hp1) (k2 _ hp2) (by omega) (by omega) Z0 Z1 X0 X1 Y0 Y1 e1 e2 (by omega)
      (by rw [hK]; exact Int.mul_le_mul_of_nonneg_right m3 (by omega)) (by omega) A1 A2 B1 B2 (ht.n0 _) (ht.n1 _) i2 i3 (bt_nonneg f k)
    obtain ⟨j1, j2⟩ := div_bd (by omega) KS hc.1 hc.2
    have es : T (k + 1) * Z - sg (k + 1) * (t (f + 2 * (k + 1)) * S) = T (k + 1) * Z + sg k * (t (f + 2 * k + 1 + 1) * S) := by
      show T (k + 1) * Z - (- sg k) * (t (f + 2 * (k + 1)) * S) = _
      rw [Int.neg_mul, Int.sub_neg, show f + 2 * (k + 1) = f + 2 * k + 1 + 1 by omega]
    have J1 : T (k + 1) * Z - sg (k + 1) * (t (f + 2 * (k + 1)) * S) ≤ bt f (k + 1) * (K * S) := by rw [es]; exact j1
    have J2 : -(bt f (k + 1) * (K * S)) ≤ T (k + 1) * Z - sg (k + 1) * (t (f + 2 * (k + 1)) * S) := by rw [es]; exact j2
    refine ⟨tb, ⟨J1, J2⟩, ?_⟩
    have hw := mb (k6 _ w2) (k5 _ w1) (show -S ≤ Z by omega) Z1
    show W (k + 1) * Z - (al t f k + sg (k + 1) * t (f + 2 * (k + 1))) * S ≤ (ep f k + bt f (k + 1) + 64) * (K * S) ∧ -((ep f k + bt f (k + 1) + 64) * (K * S)) ≤ W (k + 1) * Z - (al t f k + sg (k + 1) * t (f + 2 * (k + 1))) * S
    rw [Int.sub_mul, Int.add_mul, Int.mul_assoc 64] at hw
    rw [Int.add_mul, Int.mul_assoc (sg (k + 1)), Int.add_mul, Int.add_mul]
    generalize W (k + 1) * Z = z1 at *
    generalize W k * Z = z2 at *
    generalize T (k + 1) * Z = z3 at *
    generalize sg (k + 1) * (t (f + 2 * (k + 1)) * S) = z4 at *
    generalize al t f k * S = z5 at *
    generalize ep f k * (K * S) = z6 at *
    generalize bt f (k + 1) * (K * S) = z7 at *
    generalize K * S = z8 at *
    clear A1 A2 B1 B2 hc j1 j2 u1 u2 v1 v2 i2 i3 w1 w2 hp1 hp2 m2 m3 es
    omega

theorem ep_vals : ep 0 15 ≤ 1900 ∧ ep 1 14 ≤ 1900 := by decide
theorem P_small {S X P : Int} (hS : 0 < S) (X0 : 0 ≤ X) (X1 : 100 * X ≤ 79 * S)
    (p1 : 79228162514264337593543950336 * (P * S - X * X) ≤ S * S) (p2 : -(S * S) ≤ 79228162514264337593543950336 * (P * S - X * X)) : 10 * (P.natAbs : Int) ≤ 7 * S := by
  have hXX := cmp_xx X0 X1
  have h1 : 0 ≤ X * X := Int.mul_nonneg X0 X0
  have h2 : 0 ≤ S * S := Int.mul_nonneg (by omega) (by omega)
  have h3 : 10 * (((P * S).natAbs : Nat) : Int) ≤ 7 * (S * S) := by
    clear X0 X1
    generalize P * S = a at *
    generalize X * X = b at *
    generalize S * S = c at *
    omega
  rw [abs_mul_pos hS] at h3
  refine Int.le_of_mul_le_mul_right ?_ hS
  rw [Int.mul_assoc, Int.mul_assoc]
  exact h3

theorem docT_of {D X : Int} (hD : 0 ≤ D) (X0 : 0 ≤ X) (X1 : X ≤ 1329227995784915872903807060280344576) :
    DocT (1329227995784915872903807060280344576 * D) D (X * D) (fun i => rT X i * D) := by
  have DD : 0 ≤ D * D := Int.mul_nonneg hD hD
  have base : ∀ i : Nat, ((i : Int) + 1) * rT X (i + 1) * 1329227995784915872903807060280344576 ≤ rT X i * X ∧ rT X i * X ≤ ((i : Int) + 1) * (rT X (i + 1) + 1) * 1329227995784915872903807060280344576 := by
    intro i
    have e : rT X (i + 1) = rT X i * X / 2 ^ 120 / ((i : Int) + 1) := rfl
    rw [e120] at e
    obtain ⟨y, hy⟩ : ∃ y, y = rT X i * X / 1329227995784915872903807060280344576 := ⟨_, rfl⟩
    rw [← hy] at e
    have h1 := Int.mul_ediv_self_le (x := y) (k := (i : Int) + 1) (by omega)
    have h2 := Int.lt_mul_ediv_self_add (x := y) (k := (i : Int) + 1) (by omega)
    rw [← e] at h1 h2
    have h3 : ((i : Int) + 1) * (rT X (i + 1) + 1) = ((i : Int) + 1) * rT X (i + 1) + ((i : Int) + 1) := by rw [Int.mul_add, Int.mul_one]
    rw [h3]
    generalize ((i : Int) + 1) * rT X (i + 1) = z at *
    clear e h3
    constructor <;> omega
  refine ⟨fun i => ?_, fun i => ?_, fun i => ?_, fun i => ?_⟩
  · have h := Int.mul_le_mul_of_nonneg_right (base i).1 DD
    show ((i : Int) + 1) * (rT X (i + 1) * D) * (1329227995784915872903807060280344576 * D) ≤ rT X i * D * (X * D)
    clear base
    generalize rT X (i + 1) = a at *
    generalize rT X i = b at *
    grind
  · have h := Int.mul_le_mul_of_nonneg_right (base i).2 DD
    show rT X i * D * (X * D) ≤ ((i : Int) + 1) * (rT X (i + 1) * D + D) * (1329227995784915872903807060280344576 * D)
    clear base
    generalize rT X (i + 1) = a at *
    generalize rT X i = b at *
    grind
  · exact Int.mul_nonneg (rT_bd X0 X1 i).1 hD
  · exact Int.mul_le_mul_of_nonneg_right (rT_bd X0 X1 i).2.1 hD

theorem rT_one (X : Int) : rT X 1 = X := by
  show 1329227995784915872903807060280344576 * X / 2 ^ 120 / (((0 : Nat) : Int) + 1) = X
  rw [e120]
  omega

theorem rT_31 {X : Int} (X0 : 0 ≤ X) (X1 : X ≤ 1329227995784915872903807060280344576) : 0 ≤ rT X 31 ∧ rT X 31 ≤ 1000 := by
  have base : ∀ i : Nat, ((i : Int) + 1) * rT X (i + 1) ≤ rT X i := by
    intro i
    have h0 := (rT_bd X0 X1 i).1
    have e : rT X (i + 1) = rT X i * X / 2 ^ 120 / ((i : Int) + 1) := rfl
    rw [e120] at e
    obtain ⟨y, hy⟩ : ∃ y, y = rT X i * X / 1329227995784915872903807060280344576 := ⟨_, rfl⟩
    rw [← hy] at e
    have h1 := Int.mul_ediv_self_le (x := y) (k := (i : Int) + 1) (by omega)
    rw [← e] at h1
    have h2 := Int.mul_le_mul_of_nonneg_left X1 h0
    generalize ((i : Int) + 1) * rT X (i + 1) = z at *
    generalize rT X i * X = p at *
    clear e
    omega
  refine ⟨(rT_bd X0 X1 31).1, ?_⟩
  have t0 : rT X 0 ≤ 1329227995784915872903807060280344576 := (rT_bd X0 X1 0).2.1
  have b0 : 1 * rT X 1 ≤ rT X 0 := base 0
  have b1 : 2 * rT X 2 ≤ rT X 1 := base 1
  have b2 : 3 * rT X 3 ≤ rT X 2 := base 2
  have b3 : 4 * rT X 4 ≤ rT X 3 := base 3
  have b4 : 5 * rT X 5 ≤ rT X 4 := base 4
  have b5 : 6 * rT X 6 ≤ rT X 5 := base 5
  have b6 : 7 * rT X 7 ≤ rT X 6 := base 6
  have b7 : 8 * rT X 8 ≤ rT X 7 := base 7
  have b8 : 9 * rT X 9 ≤ rT X 8 := base 8
  have b9 : 10 * rT X 10 ≤ rT X 9 := base 9
  have b10 : 11 * rT X 11 ≤ rT X 10 := base 10
  have b11 : 12 * rT X 12 ≤ rT X 11 := base 11
  have b12 : 13 * rT X 13 ≤ rT X 12 := base 12
  have b13 : 14 * rT X 14 ≤ rT X 13 := base 13
  have b14 : 15 * rT X 15 ≤ rT X 14 := base 14
  have b15 : 16 * rT X 16 ≤ rT X 15 := base 15
  have b16 : 17 * rT X 17 ≤ rT X 16 := base 16
  have b17 : 18 * rT X 18 ≤ rT X 17 := base 17
  have b18 : 19 * rT X 19 ≤ rT X 18 := base 18
  have b19 : 20 * rT X 20 ≤ rT X 19 := base 19
  have b20 : 21 * rT X 21 ≤ rT X 20 := base 20
  have b21 : 22 * rT X 22 ≤ rT X 21 := base 21
  have b22 : 23 * rT X 23 ≤ rT X 22 := base 22
  have b23 : 24 * rT X 24 ≤ rT X 23 := base 23
  have b24 : 25 * rT X 25 ≤ rT X 24 := base 24
  have b25 : 26 * rT X 26 ≤ rT X 25 := base 25
  have b26 : 27 * rT X 27 ≤ rT X 26 := base 26
  have b27 : 28 * rT X 28 ≤ rT X 27 := base 27
  have b28 : 29 * rT X 29 ≤ rT X 28 := base 28
  have b29 : 30 * rT X 30 ≤ rT X 29 := base 29
  have b30 : 31 * rT X 31 ≤ rT X 30 := base 30
  clear base
  omega

theorem al_cos (X D : Int) : al (fun i => rT X i * D) 0 15 = (rS X 32 0 - rS X 32 2) * D := by
  simp [al, sg, rS]
  generalize rT X 0 = a0, rT X 2 = a2, rT X 4 = a4, rT X 6 = a6, rT X 8 = a8, rT X 10 = a10, rT X 12 = a12, rT X 14 = a14, rT X 16 = a16, rT X 18 = a18, rT X 20 = a20, rT X 22 = a22, rT X 24 = a24, rT X 26 = a26, rT X 28 = a28, rT X 30 = a30
  grind
theorem al_sin (X D : Int) : al (fun i => rT X i * D) 1 14 - rT X 31 * D = (rS X 32 1 - rS X 32 3) * D := by
  simp [al, sg, rS]
  generalize rT X 1 = a0, rT X 3 = a2, rT X 5 = a4, rT X 7 = a6, rT X 9 = a8, rT X 11 = a10, rT X 13 = a12, rT X 15 = a14, rT X 17 = a16, rT X 19 = a18, rT X 21 = a20, rT X 23 = a22, rT X 25 = a24, rT X 27 = a26, rT X 29 = a28, rT X 31 = a30
  grind
theorem doc_eighth : (rS eighth120 32 0 - rS eighth120 32 2) - (rS eighth120 32 1 - rS eighth120 32 3) = 2 := by decide +kernel

/-- The argument's error, times the number of parts. -/
theorem arg_err {n r S D K X Y E : Int} (n1 : 1 ≤ n) (r1 : 1 ≤ r) (rn : r ≤ n) (hS : S = 1329227995784915872903807060280344576 * D) (hK : K = 1048576 * D) (hD : 0 < D)
    (hpi : piV = 1043973226625944089706719114415889436 * D + 996 * D) (hE : E = r * 1043973226625944089706719114415889436) (hY1 : n * Y ≤ E) (hY2 : E ≤ n * Y + n)
    (x1 : 2475880078570760549798248448 * (n * X - piV * r) ≤ r * S) (x2 : -(r * S) ≤ 2475880078570760549798248448 * (n * X - piV * r)) :
    X - Y * D ≤ 513 * K ∧ -(513 * K) ≤ X - Y * D := by
  have q1 : n * X - piV * r ≤ 512 * (K * r) ∧ -(512 * (K * r)) ≤ n * X - piV * r := by
    have e : r * S = 2475880078570760549798248448 * (512 * (K * r)) := by rw [hS, hK]; clear hY1 hY2 x1 x2 hE hpi; grind
    rw [e] at x1 x2
    generalize n * X - piV * r = a at *
    generalize K * r = b at *
    clear hE hpi hS e
    constructor <;> omega
  have hKr : K * r ≤ K * n := Int.mul_le_mul_of_nonneg_left rn (by omega)
  have hDr : D * r ≤ D * n := Int.mul_le_mul_of_nonneg_left rn (by omega)
  have hDr0 : 0 ≤ D * r := Int.mul_nonneg (by omega) (by omega)
  have y1 := Int.mul_le_mul_of_nonneg_right hY1 (show 0 ≤ D by omega)
  have y2 := Int.mul_le_mul_of_nonneg_right hY2 (show 0 ≤ D by omega)
  have epr : piV * r = E * D + 996 * (D * r) := by rw [hpi, hE]; clear x1 x2 hY1 hY2 q1 y1 y2 hKr hDr; grind
  have eKn : K * n = 1048576 * (D * n) := by rw [hK, Int.mul_assoc]
  have e1 : n * (X - Y * D) = n * X - n * Y * D := by rw [Int.mul_sub, Int.mul_assoc]
  have e2 : (n * Y + n) * D = n * Y * D + D * n := by rw [Int.add_mul, Int.mul_comm n D]
  rw [e2] at y2
  have f1 : n * (X - Y * D) ≤ n * (513 * K) ∧ -(n * (513 * K)) ≤ n * (X - Y * D) := by
    have e3 : n * (513 * K) = 513 * (K * n) := by rw [Int.mul_left_comm, Int.mul_comm n]
    rw [e1, e3]
    rw [epr] at q1
    generalize n * X = a at *
    generalize n * Y * D = b at *
    generalize E * D = c at *
    generalize D * r = d at *
    generalize D * n = f at *
    generalize K * r = g at *
    generalize K * n = h at *
    clear x1 x2 hpi hE hY1 hY2 e1 e2 epr e3 hS
    constructor <;> omega
  constructor
  · exact Int.le_of_mul_le_mul_left f1.1 (by omega)
  · refine Int.le_of_mul_le_mul_left (a := n) ?_ (by omega)
    rw [Int.mul_neg]; exact f1.2

theorem near_doc {S D r n c s X' : Int} (hSD : S = 1329227995784915872903807060280344576 * D) (hD : 0 < D) (hpi : piV = 1043973226625944089706719114415889436 * D + 996 * D)
    (r1 : 1 ≤ r) (rn : r ≤ n) (h : NearVal S n r c s) (hX' : X' = eighth120 * r / n) :
    (c - (rS X' 32 0 - rS X' 32 2) * D ≤ 2000 * (1048576 * D) ∧ -(2000 * (1048576 * D)) ≤ c - (rS X' 32 0 - rS X' 32 2) * D) ∧
    (s - (rS X' 32 1 - rS X' 32 3) * D ≤ 2000 * (1048576 * D) ∧ -(2000 * (1048576 * D)) ≤ s - (rS X' 32 1 - rS X' 32 3) * D) := by
  obtain ⟨X, W, hX, x1, x2, hc, hs, q1, q2⟩ := h.out
  obtain ⟨K, hK⟩ : ∃ K, K = 1048576 * D := ⟨_, rfl⟩
  have hS : 0 < S := by omega
  have hSK : S = 1267650600228229401496703205376 * K := by omega
  have ee : eighth120 = 1043973226625944089706719114415889436 := by decide
  have hE0 : 0 ≤ eighth120 * r := Int.mul_nonneg (by decide) (by omega)
  have hE1 : eighth120 * r ≤ eighth120 * n := Int.mul_le_mul_of_nonneg_left rn (by decide)
  have hX0 : 0 ≤ X' := by rw [hX']; exact Int.ediv_nonneg hE0 (by omega)
  have hX1 : X' ≤ eighth120 := by
    rw [hX']
    refine Int.le_trans (Int.ediv_le_ediv (by omega) hE1) ?_
    rw [Int.mul_ediv_cancel _ (by omega)]; exact Int.le_refl _
  have hX2 : X' ≤ 1329227995784915872903807060280344576 := Int.le_trans hX1 (by decide)
  have d1 := Int.mul_ediv_self_le (x := eighth120 * r) (k := n) (by omega)
  have d2 := Int.lt_mul_ediv_self_add (x := eighth120 * r) (k := n) (by omega)
  rw [← hX'] at d1 d2
  obtain ⟨e1, e2⟩ := arg_err (E := eighth120 * r) (by omega) r1 rn hSD hK hD hpi (by rw [Int.mul_comm, ee]) d1 (by omega) x1 x2
  have nX : 0 ≤ n * X := by
    have e : r * S = 1329227995784915872903807060280344576 * (r * D) := by rw [hSD, Int.mul_left_comm]
    have e2 : piV * r = 1043973226625944089706719114415890432 * (r * D) := by
      rw [hpi, ← Int.add_mul, Int.mul_assoc, Int.mul_comm D]; rfl
    have hrD : 0 ≤ r * D := Int.mul_nonneg (by omega) (by omega)
    rw [e, e2] at x2
    generalize n * X = a at *
    generalize r * D = b at *
    clear e e2 x1 hpi hSD hSK hX
    omega
  have X0 : 0 ≤ X := by
    apply Decidable.byContradiction
    intro hneg
    have : n * X < 0 := Int.mul_neg_of_pos_of_neg (by omega) (by omega)
    omega
  have Y0 : 0 ≤ X' * D := Int.mul_nonneg hX0 (by omega)
  have Y1 : 100 * (X' * D) ≤ 79 * S := by
    have := Int.mul_le_mul_of_nonneg_right hX1 (show 0 ≤ D by omega)
    rw [hSD]
    rw [ee] at this
    generalize X' * D = a at *
    clear d1 d2 x1 x2 hpi hE0 hE1 hX2
    omega
  have hd := docT_of (D := D) (by omega) hX0 hX2
  rw [← hSD] at hd
  obtain ⟨P, T, W', p1, p2, hA, hw⟩ := hc.out
  obtain ⟨P2, T2, W2, r1', r2', hA2, hw2⟩ := hs.out
  have v15 := ep_vals
  have hKS : 0 < K * S := Int.mul_pos (by omega) hS
  constructor
  · have ez : S * S - rT X' 0 * D * S = 0 := by
      show S * S - 1329227995784915872903807060280344576 * D * S = 0
      rw [← hSD]; omega
    have b00 : bt 0 0 * (K * S) = 0 := by show 513 * ((0 : Nat) : Int) * (K * S) = 0; omega
    have k1 := cmp_all (Z := S) (f := 0) (R := 15) hS hSK hK (by omega) (by omega) p1 p2 (P_small hS (by omega) (by omega) p1 p2) hA (by omega) (by omega) X0 (by omega) Y0 Y1 e1 e2 hd (by rw [b00, ez]; omega) (by rw [b00, ez]; omega) 15 (by omega)
    obtain ⟨_, _, g1, g2⟩ := k1
    rw [hw, al_cos] at g1 g2
    have h1 := Int.mul_le_mul_of_nonneg_right v15.1 (show 0 ≤ K * S by omega)
    rw [← hK]
    constructor
    · refine Int.le_of_mul_le_mul_right (a := S) ?_ hS
      rw [Int.sub_mul, Int.mul_assoc 2000]
      generalize K * S = a at *
      clear x1 x2 q1 q2 hd d1 d2 e1 e2 p1 p2 r1' r2' hpi
      omega
    · refine Int.le_of_mul_le_mul_right (a := S) ?_ hS
      rw [Int.sub_mul, Int.neg_mul, Int.mul_assoc 2000]
      generalize K * S = a at *
      clear x1 x2 q1 q2 hd d1 d2 e1 e2 p1 p2 r1' r2' hpi
      omega
  · have ez : S * X - rT X' 1 * D * S = (X - X' * D) * S := by
      rw [rT_one, Int.sub_mul, Int.mul_comm S X]
    have b10 : bt 1 0 * (K * S) = 513 * K * S := by
      show 513 * ((1 : Nat) : Int) * (K * S) = 513 * K * S
      rw [Int.mul_assoc 513 K]; rfl
    have f1 := Int.mul_le_mul_of_nonneg_right e1 (show 0 ≤ S by omega)
    have f2 := Int.mul_le_mul_of_nonneg_right e2 (show 0 ≤ S by omega)
    rw [Int.neg_mul] at f2
    have k1 := cmp_all (Z := X) (f := 1) (R := 14) hS hSK hK (by omega) (by omega) r1' r2' (P_small hS (by omega) (by omega) r1' r2') hA2 (by omega) (by omega) X0 (by omega) Y0 Y1 e1 e2 hd (by rw [b10, ez]; exact f1) (by rw [b10, ez]; exact f2) 14 (by omega)
    obtain ⟨_, _, g1, g2⟩ := k1
    rw [hw2] at g1 g2
    have h1 := Int.mul_le_mul_of_nonneg_right v15.2 (show 0 ≤ K * S by omega)
    have hal := al_sin X' D
    obtain ⟨t0, t1⟩ := rT_31 hX0 hX2
    have t2 : rT X' 31 * D ≤ 1000 * D := Int.mul_le_mul_of_nonneg_right t1 (by omega)
    have t3 : 0 ≤ rT X' 31 * D := Int.mul_nonneg t0 (by omega)
    have q : s * S - W * X ≤ 64 * (K * S) ∧ -(64 * (K * S)) ≤ s * S - W * X := by
      have e : S * S = 1267650600228229401496703205376 * (K * S) := by
        have h : S * S = 1267650600228229401496703205376 * K * S := congrArg (· * S) hSK
        rw [h, Int.mul_assoc]
      rw [Int.mul_assoc, e] at q1 q2
      generalize s * S - W * X = a at *
      generalize K * S = b at *
      clear x1 x2 hd d1 d2 e1 e2 p1 p2 r1' r2' hpi e
      constructor <;> omega
    have hTS : rT X' 31 * D * S ≤ K * S := Int.mul_le_mul_of_nonneg_right (by omega) (by omega)
    have hTS0 : 0 ≤ rT X' 31 * D * S := Int.mul_nonneg t3 (by omega)
    have hal2 : (rS X' 32 1 - rS X' 32 3) * D * S = al (fun i => rT X' i * D) 1 14 * S - rT X' 31 * D * S := by rw [← hal, Int.sub_mul]
    rw [← hK]
    constructor
    · refine Int.le_of_mul_le_mul_right (a := S) ?_ hS
      rw [Int.sub_mul, Int.mul_assoc 2000, hal2]
      generalize K * S = a at *
      clear x1 x2 q1 q2 hd d1 d2 e1 e2 p1 p2 r1' r2' hpi f1 f2 hal hal2 ez b10 hX Y1
      omega
    · refine Int.le_of_mul_le_mul_right (a := S) ?_ hS
      rw [Int.sub_mul, Int.neg_mul, Int.mul_assoc 2000, hal2]
      generalize K * S = a at *
      clear x1 x2 q1 q2 hd d1 d2 e1 e2 p1 p2 r1' r2' hpi f1 f2 hal hal2 ez b10 hX Y1
      omega

end Go.Proofs.Ytnpkblidlmkagaa
