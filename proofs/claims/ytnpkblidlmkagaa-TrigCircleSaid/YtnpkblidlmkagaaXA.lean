/- Powers over factorials: cosines and sines by exact sums, their products, octants. -/
import Derived.Test.YtnpkblidlmkagaaG9
set_option linter.unusedSimpArgs false
set_option linter.unusedVariables false
namespace Go.Proofs.Ytnpkblidlmkagaa
open Fl

/-- Powers over factorials. -/
def te (x : Rat) : Nat → Rat
  | 0 => 1
  | j + 1 => te x j * x / ((j : Rat) + 1)
/-- The sum of the first n + 1. -/
def sm (f : Nat → Rat) : Nat → Rat
  | 0 => f 0
  | n + 1 => sm f n + f (n + 1)
/-- Real and imaginary part of i^m. -/
def sc : Nat → Rat × Rat
  | 0 => (1, 0)
  | m + 1 => (- (sc m).2, (sc m).1)

theorem sm_add (f g : Nat → Rat) : ∀ n, sm (fun j => f j + g j) n = sm f n + sm g n
  | 0 => rfl
  | n + 1 => by simp only [sm]; rw [sm_add f g n]; grind
theorem sm_congr (f g : Nat → Rat) : ∀ n, (∀ j, j ≤ n → f j = g j) → sm f n = sm g n
  | 0, h => h 0 (Nat.le_refl _)
  | n + 1, h => by simp only [sm]; rw [sm_congr f g n (fun j hj => h j (by omega)), h (n + 1) (Nat.le_refl _)]
theorem sm_mulr (f : Nat → Rat) (c : Rat) : ∀ n, sm (fun j => f j * c) n = sm f n * c
  | 0 => rfl
  | n + 1 => by simp only [sm]; rw [sm_mulr f c n]; grind
theorem sm_mull (f : Nat → Rat) (c : Rat) : ∀ n, sm (fun j => c * f j) n = c * sm f n
  | 0 => rfl
  | n + 1 => by simp only [sm]; rw [sm_mull f c n]; grind
theorem sm_shift (f : Nat → Rat) : ∀ n, sm f (n + 1) = f 0 + sm (fun j => f (j + 1)) n
  | 0 => rfl
  | n + 1 => by
    show sm f (n + 1) + f (n + 2) = f 0 + (sm (fun j => f (j + 1)) n + f (n + 2))
    rw [sm_shift f n]; grind
theorem sm_mul (f g : Nat → Rat) (m n : Nat) : sm f m * sm g n = sm (fun j => sm (fun k => f j * g k) n) m := by
  rw [← sm_mulr]
  apply sm_congr
  intro j _
  rw [sm_mull]
theorem sm_le (f F : Nat → Rat) (h : ∀ k, -F k ≤ f k ∧ f k ≤ F k) : ∀ n, -sm F n ≤ sm f n ∧ sm f n ≤ sm F n
  | 0 => h 0
  | n + 1 => by
    have h1 := sm_le f F h n
    have h2 := h (n + 1)
    simp only [sm]
    constructor <;> grind
theorem sm_tail (f F : Nat → Rat) (h : ∀ k, -F k ≤ f k ∧ f k ≤ F k) (m : Nat) : ∀ d, -(sm F (m + d) - sm F m) ≤ sm f (m + d) - sm f m ∧ sm f (m + d) - sm f m ≤ sm F (m + d) - sm F m
  | 0 => by constructor <;> grind
  | d + 1 => by
    have h1 := sm_tail f F h m d
    have h2 := h (m + d + 1)
    have e : ∀ f : Nat → Rat, sm f (m + (d + 1)) = sm f (m + d) + f (m + d + 1) := fun f => rfl
    rw [e, e]
    constructor <;> grind
theorem sm_sub (f g : Nat → Rat) : ∀ n, sm (fun j => f j - g j) n = sm f n - sm g n
  | 0 => rfl
  | n + 1 => by simp only [sm]; rw [sm_sub f g n]; grind

theorem nat_pos (j : Nat) : (0 : Rat) < (j : Rat) + 1 := by
  have : (0 : Rat) ≤ (j : Rat) := Rat.natCast_nonneg
  grind
theorem te_succ (x : Rat) (j : Nat) : ((j : Rat) + 1) * te x (j + 1) = x * te x j := by
  have h := nat_pos j
  show ((j : Rat) + 1) * (te x j * x / ((j : Rat) + 1)) = x * te x j
  grind

/-- The m-th term of a product. -/
def am (x y : Rat) (m : Nat) : Rat := sm (fun j => te x j * te y (m - j)) m

theorem am_succ (x y : Rat) (m : Nat) : ((m : Rat) + 1) * am x y (m + 1) = (x + y) * am x y m := by
  have e1 : ((m : Rat) + 1) * am x y (m + 1) = sm (fun j => (j : Rat) * (te x j * te y (m + 1 - j))) (m + 1) + sm (fun j => ((m + 1 - j : Nat) : Rat) * (te x j * te y (m + 1 - j))) (m + 1) := by
    unfold am
    rw [← sm_mull, ← sm_add]
    apply sm_congr
    intro j hj
    have e : ((m + 1 - j : Nat) : Rat) + (j : Rat) = (m : Rat) + 1 := by
      rw [← Rat.natCast_add, show m + 1 - j + j = m + 1 by omega, Rat.natCast_add]; rfl
    rw [← e]
    grind
  have e2 : sm (fun j => (j : Rat) * (te x j * te y (m + 1 - j))) (m + 1) = x * am x y m := by
    rw [sm_shift]
    unfold am
    rw [← sm_mull]
    have : ((0 : Nat) : Rat) * (te x 0 * te y (m + 1 - 0)) = 0 := by
      have : ((0 : Nat) : Rat) = 0 := rfl
      rw [this]; grind
    rw [this, Rat.zero_add]
    apply sm_congr
    intro j hj
    have h := te_succ x j
    rw [show m + 1 - (j + 1) = m - j by omega, Rat.natCast_add]
    have : ((1 : Nat) : Rat) = 1 := rfl
    rw [this]
    grind
  have e3 : sm (fun j => ((m + 1 - j : Nat) : Rat) * (te x j * te y (m + 1 - j))) (m + 1) = y * am x y m := by
    show sm (fun j => ((m + 1 - j : Nat) : Rat) * (te x j * te y (m + 1 - j))) m + ((m + 1 - (m + 1) : Nat) : Rat) * (te x (m + 1) * te y (m + 1 - (m + 1))) = _
    have : ((m + 1 - (m + 1) : Nat) : Rat) = 0 := by rw [Nat.sub_self]; rfl
    rw [this, Rat.zero_mul, Rat.add_zero]
    unfold am
    rw [← sm_mull]
    apply sm_congr
    intro j hj
    have h := te_succ y (m - j)
    rw [show m + 1 - j = (m - j) + 1 by omega, Rat.natCast_add]
    have : ((1 : Nat) : Rat) = 1 := rfl
    rw [this]
    grind
  rw [e1, e2, e3]
  grind

theorem cancR {a b c : Rat} (hc : 0 < c) (h : c * a = c * b) : a = b := by
  have : c ≠ 0 := by grind
  grind
theorem am_eq (x y : Rat) : ∀ m, am x y m = te (x + y) m
  | 0 => Rat.mul_one 1
  | m + 1 => by
    have h1 := am_succ x y m
    have h2 := te_succ (x + y) m
    rw [am_eq x y m] at h1
    exact cancR (nat_pos m) (h1.trans h2.symm)

/-- All products, and those up to n. -/
def sq (g : Nat → Nat → Rat) (n : Nat) : Rat := sm (fun j => sm (g j) n) n
def tri (g : Nat → Nat → Rat) (n : Nat) : Rat := sm (fun j => sm (g j) (n - j)) n

theorem tri_eq (g : Nat → Nat → Rat) : ∀ n, tri g n = sm (fun m => sm (fun j => g j (m - j)) m) n
  | 0 => rfl
  | n + 1 => by
    have ih := tri_eq g n
    have e : tri g (n + 1) = tri g n + sm (fun j => g j (n + 1 - j)) (n + 1) := by
      show sm (fun j => sm (g j) (n + 1 - j)) n + sm (g (n + 1)) (n + 1 - (n + 1)) = tri g n + (sm (fun j => g j (n + 1 - j)) n + g (n + 1) (n + 1 - (n + 1)))
      rw [Nat.sub_self]
      have e1 : sm (fun j => sm (g j) (n + 1 - j)) n = tri g n + sm (fun j => g j (n + 1 - j)) n := by
        unfold tri
        rw [← sm_add]
        apply sm_congr
        intro j hj
        rw [show n + 1 - j = (n - j) + 1 by omega]
        rfl
      rw [e1]
      show _ + g (n + 1) 0 = _
      grind
    rw [e, ih]
    rfl

theorem sq_tri (g G : Nat → Nat → Rat) (h : ∀ j k, -G j k ≤ g j k ∧ g j k ≤ G j k) (n : Nat) : -(sq G n - tri G n) ≤ sq g n - tri g n ∧ sq g n - tri g n ≤ sq G n - tri G n := by
  unfold sq tri
  rw [← sm_sub, ← sm_sub]
  have key : ∀ j, j ≤ n → -(sm (G j) n - sm (G j) (n - j)) ≤ sm (g j) n - sm (g j) (n - j) ∧ sm (g j) n - sm (g j) (n - j) ≤ sm (G j) n - sm (G j) (n - j) := by
    intro j hj
    have := sm_tail (g j) (G j) (h j) (n - j) j
    rwa [show n - j + j = n by omega] at this
  have : ∀ (f F : Nat → Rat) (n : Nat), (∀ j, j ≤ n → -F j ≤ f j ∧ f j ≤ F j) → -sm F n ≤ sm f n ∧ sm f n ≤ sm F n := by
    intro f F n
    induction n with
    | zero => intro h; exact h 0 (Nat.le_refl _)
    | succ n ih =>
      intro h
      have h1 := ih (fun j hj => h j (by omega))
      have h2 := h (n + 1) (Nat.le_refl _)
      simp only [sm]
      constructor <;> grind
  exact this _ _ n key

theorem sc_add (j : Nat) : ∀ k, (sc (j + k)).1 = (sc j).1 * (sc k).1 - (sc j).2 * (sc k).2 ∧ (sc (j + k)).2 = (sc j).2 * (sc k).1 + (sc j).1 * (sc k).2
  | 0 => by simp only [sc, Nat.add_zero]; constructor <;> grind
  | k + 1 => by
    obtain ⟨h1, h2⟩ := sc_add j k
    show -(sc (j + k)).2 = _ ∧ (sc (j + k)).1 = _
    simp only [sc]
    constructor <;> grind
theorem sc_le : ∀ m, (-1 ≤ (sc m).1 ∧ (sc m).1 ≤ 1) ∧ (-1 ≤ (sc m).2 ∧ (sc m).2 ≤ 1)
  | 0 => by simp only [sc]; decide +kernel
  | m + 1 => by
    have := sc_le m
    simp only [sc]
    grind

/-- Cosine and sine by n + 1 terms. -/
def cN (n : Nat) (x : Rat) : Rat := sm (fun m => (sc m).1 * te x m) n
def sN (n : Nat) (x : Rat) : Rat := sm (fun m => (sc m).2 * te x m) n

theorem te_nonneg {x : Rat} (h : 0 ≤ x) : ∀ j, 0 ≤ te x j
  | 0 => by show (0 : Rat) ≤ 1; decide +kernel
  | j + 1 => by
    have h1 := te_succ x j
    have h2 := Rat.mul_nonneg h (te_nonneg h j)
    have h3 := nat_pos j
    apply Decidable.byContradiction
    intro hc
    have h4 : 0 < - te x (j + 1) := by grind
    have h5 := Rat.mul_pos h3 h4
    grind
theorem mbR {a b A B : Rat} (h1 : -A ≤ a) (h2 : a ≤ A) (h3 : -B ≤ b) (h4 : b ≤ B) : -(A * B) ≤ a * b ∧ a * b ≤ A * B := by
  have p1 := Rat.mul_nonneg (show 0 ≤ A - a by grind) (show 0 ≤ B - b by grind)
  have p2 := Rat.mul_nonneg (show 0 ≤ A - a by grind) (show 0 ≤ B + b by grind)
  have p3 := Rat.mul_nonneg (show 0 ≤ A + a by grind) (show 0 ≤ B - b by grind)
  have p4 := Rat.mul_nonneg (show 0 ≤ A + a by grind) (show 0 ≤ B + b by grind)
  constructor <;> grind
theorem te_le {x X : Rat} (h1 : -X ≤ x) (h2 : x ≤ X) : ∀ j, -te X j ≤ te x j ∧ te x j ≤ te X j
  | 0 => by show -(1 : Rat) ≤ 1 ∧ (1 : Rat) ≤ 1; decide +kernel
  | j + 1 => by
    obtain ⟨a1, a2⟩ := te_le h1 h2 j
    have p := mbR a1 a2 h1 h2
    have e1 := te_succ x j
    have e2 := te_succ X j
    have h3 := nat_pos j
    constructor
    · apply Decidable.byContradiction
      intro hc
      have h4 : 0 < - te X (j + 1) - te x (j + 1) := by grind
      have h5 := Rat.mul_pos h3 h4
      grind
    · apply Decidable.byContradiction
      intro hc
      have h4 : 0 < te x (j + 1) - te X (j + 1) := by grind
      have h5 := Rat.mul_pos h3 h4
      grind

/-- What is left out. -/
def tau (n : Nat) (X Y : Rat) : Rat := sm (te X) n * sm (te Y) n - sm (te (X + Y)) n

theorem prod_gen {x y X Y : Rat} (hx1 : -X ≤ x) (hx2 : x ≤ X) (hy1 : -Y ≤ y) (hy2 : y ≤ Y) (n : Nat) (s : Nat → Rat) (hs : ∀ m, -1 ≤ s m ∧ s m ≤ 1) :
    -tau n X Y ≤ sm (fun j => sm (fun k => s (j + k) * (te x j * te y k)) n) n - sm (fun m => s m * te (x + y) m) n ∧ sm (fun j => sm (fun k => s (j + k) * (te x j * te y k)) n) n - sm (fun m => s m * te (x + y) m) n ≤ tau n X Y := by
  have h := sq_tri (fun j k => s (j + k) * (te x j * te y k)) (fun j k => te X j * te Y k) (fun j k => by
    obtain ⟨a1, a2⟩ := te_le hx1 hx2 j
    obtain ⟨b1, b2⟩ := te_le hy1 hy2 k
    have p := mbR a1 a2 b1 b2
    have q := mbR (hs (j + k)).1 (hs (j + k)).2 p.1 p.2
    rw [Rat.one_mul] at q
    exact q) n
  have e1 : tri (fun j k => te X j * te Y k) n = sm (te (X + Y)) n := by
    rw [tri_eq]; exact sm_congr _ _ n (fun m _ => am_eq X Y m)
  have e2 : sq (fun j k => te X j * te Y k) n = sm (te X) n * sm (te Y) n := (sm_mul _ _ n n).symm
  have e3 : tri (fun j k => s (j + k) * (te x j * te y k)) n = sm (fun m => s m * te (x + y) m) n := by
    rw [tri_eq]
    apply sm_congr
    intro m _
    rw [← am_eq]
    unfold am
    rw [← sm_mull]
    apply sm_congr
    intro j hj
    show s (j + (m - j)) * _ = _
    rw [show j + (m - j) = m by omega]
  rw [e1, e2, e3] at h
  exact h

theorem add_cos {x y X Y : Rat} (hx1 : -X ≤ x) (hx2 : x ≤ X) (hy1 : -Y ≤ y) (hy2 : y ≤ Y) (n : Nat) :
    -tau n X Y ≤ cN n x * cN n y - sN n x * sN n y - cN n (x + y) ∧ cN n x * cN n y - sN n x * sN n y - cN n (x + y) ≤ tau n X Y := by
  have h := prod_gen hx1 hx2 hy1 hy2 n (fun m => (sc m).1) (fun m => (sc_le m).1)
  have e : sm (fun j => sm (fun k => (sc (j + k)).1 * (te x j * te y k)) n) n = cN n x * cN n y - sN n x * sN n y := by
    unfold cN sN
    rw [sm_mul, sm_mul, ← sm_sub]
    apply sm_congr
    intro j _
    rw [← sm_sub]
    apply sm_congr
    intro k _
    rw [(sc_add j k).1]
    grind
  rw [e] at h
  exact h
theorem add_sin {x y X Y : Rat} (hx1 : -X ≤ x) (hx2 : x ≤ X) (hy1 : -Y ≤ y) (hy2 : y ≤ Y) (n : Nat) :
    -tau n X Y ≤ sN n x * cN n y + cN n x * sN n y - sN n (x + y) ∧ sN n x * cN n y + cN n x * sN n y - sN n (x + y) ≤ tau n X Y := by
  have h := prod_gen hx1 hx2 hy1 hy2 n (fun m => (sc m).2) (fun m => (sc_le m).2)
  have e : sm (fun j => sm (fun k => (sc (j + k)).2 * (te x j * te y k)) n) n = sN n x * cN n y + cN n x * sN n y := by
    unfold cN sN
    rw [sm_mul, sm_mul, ← sm_add]
    apply sm_congr
    intro j _
    rw [← sm_add]
    apply sm_congr
    intro k _
    rw [(sc_add j k).2]
    grind
  rw [e] at h
  exact h

theorem neg_terms (x : Rat) : ∀ j, (sc j).1 * te (-x) j = (sc j).1 * te x j ∧ (sc j).2 * te (-x) j = -((sc j).2 * te x j)
  | 0 => by simp only [sc, te]; constructor <;> grind
  | j + 1 => by
    obtain ⟨h1, h2⟩ := neg_terms x j
    have e1 := te_succ x j
    have e2 := te_succ (-x) j
    have h3 := nat_pos j
    simp only [sc]
    have n3 : (j : Rat) + 1 ≠ 0 := by grind
    have f1 : te x (j + 1) = te x j * x / ((j : Rat) + 1) := rfl
    have f2 : te (-x) (j + 1) = te (-x) j * (-x) / ((j : Rat) + 1) := rfl
    rw [f1, f2]
    constructor <;> grind
theorem cos_neg (n : Nat) (x : Rat) : cN n (-x) = cN n x := sm_congr _ _ n (fun j _ => (neg_terms x j).1)
theorem sin_neg (n : Nat) (x : Rat) : sN n (-x) = - sN n x := by
  have e : - sN n x = sm (fun m => -1 * ((sc m).2 * te x m)) n := by rw [sm_mull]; unfold sN; grind
  rw [e]
  apply sm_congr
  intro j _
  rw [(neg_terms x j).2]; grind
/-- The document's terms, against those that are exact. -/
theorem rT_te {X : Int} {x : Rat} (X0 : 0 ≤ X) (X1 : X ≤ 1329227995784915872903807060280344576) (x0 : 0 ≤ x) (x1 : x ≤ 4 / 5)
    (h1 : (X : Rat) ≤ 1329227995784915872903807060280344576 * x) (h2 : 1329227995784915872903807060280344576 * x ≤ (X : Rat) + 1) :
    ∀ i, -4 ≤ (rT X i : Rat) - 1329227995784915872903807060280344576 * te x i ∧ (rT X i : Rat) - 1329227995784915872903807060280344576 * te x i ≤ 0
  | 0 => by
    show -4 ≤ ((1329227995784915872903807060280344576 : Int) : Rat) - 1329227995784915872903807060280344576 * 1 ∧ ((1329227995784915872903807060280344576 : Int) : Rat) - 1329227995784915872903807060280344576 * 1 ≤ 0
    decide +kernel
  | 1 => by
    have e : te x 1 = x := by
      have := te_succ x 0
      have e0 : te x 0 = 1 := rfl
      have e1 : ((0 : Nat) : Rat) = 0 := rfl
      rw [e0, e1] at this
      grind
    rw [rT_one, e]
    constructor <;> grind
  | i + 2 => by
    obtain ⟨d1, d2⟩ := rT_te X0 X1 x0 x1 h1 h2 (i + 1)
    have e := te_succ x (i + 1)
    have hb := rT_bd X0 X1 (i + 1)
    have hr : rT X (i + 1 + 1) = rT X (i + 1) * X / 2 ^ 120 / (((i + 1 : Nat) : Int) + 1) := rfl
    rw [e120] at hr
    obtain ⟨y, hy⟩ : ∃ y, y = rT X (i + 1) * X / 1329227995784915872903807060280344576 := ⟨_, rfl⟩
    rw [← hy] at hr
    have g1 := Int.mul_ediv_self_le (x := y) (k := ((i + 1 : Nat) : Int) + 1) (by omega)
    have g2 := Int.lt_mul_ediv_self_add (x := y) (k := ((i + 1 : Nat) : Int) + 1) (by omega)
    rw [← hr] at g1 g2
    obtain ⟨t, ht⟩ : ∃ t, t = rT X (i + 1) := ⟨_, rfl⟩
    obtain ⟨t', ht'⟩ : ∃ t', t' = rT X (i + 1 + 1) := ⟨_, rfl⟩
    rw [← ht] at d1 d2 hy hb
    rw [← ht'] at g1 g2
    show -4 ≤ (rT X (i + 1 + 1) : Rat) - _ * te x (i + 1 + 1) ∧ (rT X (i + 1 + 1) : Rat) - _ * te x (i + 1 + 1) ≤ 0
    rw [← ht']
    clear hr ht ht'
    -- over the rationals
    have k1 : 1329227995784915872903807060280344576 * ((((i + 1 : Nat) : Rat) + 1) * (t' : Rat)) ≤ (t : Rat) * (X : Rat) := by
      have : 1329227995784915872903807060280344576 * ((((i + 1 : Nat) : Int) + 1) * t') ≤ t * X := by
        generalize (((i + 1 : Nat) : Int) + 1) * t' = z at *
        generalize t * X = p at *
        omega
      have := Rat.intCast_le_intCast.2 this
      rw [Rat.intCast_mul, Rat.intCast_mul, Rat.intCast_mul, Rat.intCast_add] at this
      exact this
    have k2 : (t : Rat) * (X : Rat) ≤ 1329227995784915872903807060280344576 * ((((i + 1 : Nat) : Rat) + 1) * (t' : Rat)) + 1329227995784915872903807060280344576 * (((i + 1 : Nat) : Rat) + 1) := by
      have : t * X ≤ 1329227995784915872903807060280344576 * ((((i + 1 : Nat) : Int) + 1) * t') + 1329227995784915872903807060280344576 * (((i + 1 : Nat) : Int) + 1) := by
        generalize (((i + 1 : Nat) : Int) + 1) * t' = z at *
        generalize t * X = p at *
        omega
      have := Rat.intCast_le_intCast.2 this
      rw [Rat.intCast_mul, Rat.intCast_add, Rat.intCast_mul, Rat.intCast_mul, Rat.intCast_mul, Rat.intCast_add] at this
      exact this
    have k3 : (0 : Rat) ≤ (t : Rat) := by have := Rat.intCast_le_intCast.2 hb.1; exact this
    have k4 : (t : Rat) ≤ 1329227995784915872903807060280344576 := by have := Rat.intCast_le_intCast.2 hb.2.1; exact this
    have a2 : (2 : Rat) ≤ ((i + 1 : Nat) : Rat) + 1 := by
      have : (0 : Rat) ≤ (i : Rat) := Rat.natCast_nonneg
      rw [Rat.natCast_add]
      have : ((1 : Nat) : Rat) = 1 := rfl
      grind
    generalize ((i + 1 : Nat) : Rat) + 1 = a at *
    generalize (t : Rat) = u at *
    generalize (t' : Rat) = v at *
    generalize (X : Rat) = z at *
    generalize te x (i + 1) = w at *
    generalize te x (i + 1 + 1) = w' at *
    clear g1 g2 hy hb y X0 X1
    -- a (v - H w') = ..
    have m1 := Rat.mul_nonneg k3 (show 0 ≤ 1329227995784915872903807060280344576 * x - z by grind)
    have m2 := Rat.mul_nonneg k3 (show 0 ≤ z + 1 - 1329227995784915872903807060280344576 * x by grind)
    have m3 := Rat.mul_nonneg x0 (show 0 ≤ 1329227995784915872903807060280344576 * w - u by grind)
    have m4 := Rat.mul_nonneg x0 (show 0 ≤ 4 - (1329227995784915872903807060280344576 * w - u) by grind)
    constructor
    · apply Decidable.byContradiction
      intro hc
      have hp := Rat.mul_pos (show 0 < a by grind) (show 0 < -4 - (v - 1329227995784915872903807060280344576 * w') by grind)
      clear m1 m3 k1 hc h1 h2
      grind
    · apply Decidable.byContradiction
      intro hc
      have hp := Rat.mul_pos (show 0 < a by grind) (show 0 < v - 1329227995784915872903807060280344576 * w' by grind)
      clear m2 m4
      grind
theorem sc_mod : ∀ k, sc k = if k % 4 = 0 then (1, 0) else if k % 4 = 1 then (0, 1) else if k % 4 = 2 then (-1, 0) else (0, -1)
  | 0 => rfl
  | k + 1 => by
    have ih := sc_mod k
    show (-(sc k).2, (sc k).1) = _
    rw [ih]
    rcases (show k % 4 = 0 ∨ k % 4 = 1 ∨ k % 4 = 2 ∨ k % 4 = 3 by omega) with h | h | h | h
    · have : (k + 1) % 4 = 1 := by omega
      simp [h, this]
    · have : (k + 1) % 4 = 2 := by omega
      simp [h, this]
    · have : (k + 1) % 4 = 3 := by omega
      simp [h, this]
    · have : (k + 1) % 4 = 0 := by omega
      simp [h, this]

theorem rS_sc (X : Int) : ∀ k, sm (fun i => (sc i).1 * (rT X i : Rat)) k = (rS X (k + 1) 0 : Rat) - (rS X (k + 1) 2 : Rat) ∧ sm (fun i => (sc i).2 * (rT X i : Rat)) k = (rS X (k + 1) 1 : Rat) - (rS X (k + 1) 3 : Rat) := by
  have step : ∀ k, (sc k).1 * (rT X k : Rat) = ((rS X (k + 1) 0 : Rat) - (rS X (k + 1) 2 : Rat)) - ((rS X k 0 : Rat) - (rS X k 2 : Rat)) ∧ (sc k).2 * (rT X k : Rat) = ((rS X (k + 1) 1 : Rat) - (rS X (k + 1) 3 : Rat)) - ((rS X k 1 : Rat) - (rS X k 3 : Rat)) := by
    intro k
    have e : ∀ j, rS X (k + 1) j = if k % 4 = j then rS X k j + rT X k else rS X k j := fun j => rfl
    rw [e, e, e, e, sc_mod k]
    rcases (show k % 4 = 0 ∨ k % 4 = 1 ∨ k % 4 = 2 ∨ k % 4 = 3 by omega) with h | h | h | h <;> simp [h, Rat.intCast_add] <;> constructor <;> grind
  intro k
  induction k with
  | zero =>
    have h := step 0
    have z : ∀ j, (rS X 0 j : Rat) = 0 := fun j => rfl
    rw [z, z, z, z] at h
    constructor
    · show (sc 0).1 * (rT X 0 : Rat) = _
      grind
    · show (sc 0).2 * (rT X 0 : Rat) = _
      grind
  | succ k ih =>
    have h := step (k + 1)
    constructor
    · show sm (fun i => (sc i).1 * (rT X i : Rat)) k + (sc (k + 1)).1 * (rT X (k + 1) : Rat) = _
      rw [ih.1]; grind
    · show sm (fun i => (sc i).2 * (rT X i : Rat)) k + (sc (k + 1)).2 * (rT X (k + 1) : Rat) = _
      rw [ih.2]; grind

abbrev co (x : Rat) : Rat := cN 90 x
abbrev si (x : Rat) : Rat := sN 90 x
/-- An eighth of a turn. -/
def piE : Rat := (1043973226625944089706719114415889436 : Rat) / 1329227995784915872903807060280344576
/-- 2^-110. -/
def eps : Rat := 1 / 1298074214633706907132624082305024
theorem tau_small : tau 90 (63/10) (63/10) ≤ eps := by decide +kernel
theorem quarter_cs : (-eps ≤ co (2 * piE) ∧ co (2 * piE) ≤ eps) ∧ (1 - eps ≤ si (2 * piE) ∧ si (2 * piE) ≤ 1 + eps) := by decide +kernel
theorem short_te : sm (te (4/5)) 90 - sm (te (4/5)) 31 ≤ eps ∧ sm (te (4/5)) 90 ≤ 3 := by decide +kernel
theorem four32 : sm (fun _ => 4) 31 = 128 := by decide +kernel

theorem co_add {x y : Rat} (hx1 : -(63/10) ≤ x) (hx2 : x ≤ 63/10) (hy1 : -(63/10) ≤ y) (hy2 : y ≤ 63/10) : -eps ≤ co x * co y - si x * si y - co (x + y) ∧ co x * co y - si x * si y - co (x + y) ≤ eps := by
  have h := add_cos hx1 hx2 hy1 hy2 90
  have t := tau_small
  constructor <;> grind
theorem si_add {x y : Rat} (hx1 : -(63/10) ≤ x) (hx2 : x ≤ 63/10) (hy1 : -(63/10) ≤ y) (hy2 : y ≤ 63/10) : -eps ≤ si x * co y + co x * si y - si (x + y) ∧ si x * co y + co x * si y - si (x + y) ≤ eps := by
  have h := add_sin hx1 hx2 hy1 hy2 90
  have t := tau_small
  constructor <;> grind

theorem unit_le (f : Nat → Rat) (F : Nat → Rat) (s : Nat → Rat) (hs : ∀ m, -1 ≤ s m ∧ s m ≤ 1) (h : ∀ k, -F k ≤ f k ∧ f k ≤ F k) (k : Nat) : -F k ≤ s k * f k ∧ s k * f k ≤ F k := by
  have := mbR (hs k).1 (hs k).2 (h k).1 (h k).2
  rw [Rat.one_mul] at this
  exact this

/-- What the document's Near says, against the exact ones. -/
theorem doc_exact {X : Int} {x : Rat} (X0 : 0 ≤ X) (X1 : X ≤ 1329227995784915872903807060280344576) (x0 : 0 ≤ x) (x1 : x ≤ 4 / 5)
    (h1 : (X : Rat) ≤ 1329227995784915872903807060280344576 * x) (h2 : 1329227995784915872903807060280344576 * x ≤ (X : Rat) + 1) :
    (-2048 ≤ ((rS X 32 0 - rS X 32 2 : Int) : Rat) - 1329227995784915872903807060280344576 * co x ∧ ((rS X 32 0 - rS X 32 2 : Int) : Rat) - 1329227995784915872903807060280344576 * co x ≤ 2048) ∧
    (-2048 ≤ ((rS X 32 1 - rS X 32 3 : Int) : Rat) - 1329227995784915872903807060280344576 * si x ∧ ((rS X 32 1 - rS X 32 3 : Int) : Rat) - 1329227995784915872903807060280344576 * si x ≤ 2048) := by
  have hte := rT_te X0 X1 x0 x1 h1 h2
  have hb : ∀ k : Nat, -4 ≤ (rT X k : Rat) - 1329227995784915872903807060280344576 * te x k ∧ (rT X k : Rat) - 1329227995784915872903807060280344576 * te x k ≤ 4 := fun k => ⟨(hte k).1, by have := (hte k).2; grind⟩
  obtain ⟨s1, s2⟩ := rS_sc X 31
  have c1 : (((rS X 32 0 - rS X 32 2 : Int)) : Rat) = (rS X 32 0 : Rat) - (rS X 32 2 : Rat) := Rat.intCast_sub _ _
  have c2 : (((rS X 32 1 - rS X 32 3 : Int)) : Rat) = (rS X 32 1 : Rat) - (rS X 32 3 : Rat) := Rat.intCast_sub _ _
  rw [c1, c2, ← s1, ← s2]
  have t0 := short_te.1
  have k1 := sm_le _ (fun _ => 4) (unit_le _ (fun _ => 4) (fun m => (sc m).1) (fun m => (sc_le m).1) hb) 31
  have k2 := sm_le _ (fun _ => 4) (unit_le _ (fun _ => 4) (fun m => (sc m).2) (fun m => (sc_le m).2) hb) 31
  have hx : ∀ k, -te (4/5) k ≤ te x k ∧ te x k ≤ te (4/5) k := te_le (by grind) x1
  have l1 := sm_tail _ _ (unit_le _ _ (fun m => (sc m).1) (fun m => (sc_le m).1) hx) 31 59
  have l2 := sm_tail _ _ (unit_le _ _ (fun m => (sc m).2) (fun m => (sc_le m).2) hx) 31 59
  have e1 : sm (fun k => (sc k).1 * ((rT X k : Rat) - 1329227995784915872903807060280344576 * te x k)) 31 = sm (fun i => (sc i).1 * (rT X i : Rat)) 31 - 1329227995784915872903807060280344576 * cN 31 x := by
    unfold cN
    rw [← sm_mull, ← sm_sub]
    exact sm_congr _ _ 31 (fun j _ => by grind)
  have e2 : sm (fun k => (sc k).2 * ((rT X k : Rat) - 1329227995784915872903807060280344576 * te x k)) 31 = sm (fun i => (sc i).2 * (rT X i : Rat)) 31 - 1329227995784915872903807060280344576 * sN 31 x := by
    unfold sN
    rw [← sm_mull, ← sm_sub]
    exact sm_congr _ _ 31 (fun j _ => by grind)
  rw [e1, four32] at k1
  rw [e2, four32] at k2
  have m1 : -(sm (te (4/5)) 90 - sm (te (4/5)) 31) ≤ co x - cN 31 x ∧ co x - cN 31 x ≤ sm (te (4/5)) 90 - sm (te (4/5)) 31 := l1
  have m2 : -(sm (te (4/5)) 90 - sm (te (4/5)) 31) ≤ si x - sN 31 x ∧ si x - sN 31 x ≤ sm (te (4/5)) 90 - sm (te (4/5)) 31 := l2
  have he : 1329227995784915872903807060280344576 * eps = 1024 := by decide +kernel
  clear l1 l2 e1 e2 s1 s2 c1 c2 hte hb hx h1 h2 X0 X1
  generalize sm (fun i => (sc i).1 * (rT X i : Rat)) 31 = u at *
  generalize sm (fun i => (sc i).2 * (rT X i : Rat)) 31 = v at *
  generalize sm (te (4/5)) 90 - sm (te (4/5)) 31 = d at *
  generalize co x = p at *
  generalize si x = q at *
  generalize cN 31 x = p' at *
  generalize sN 31 x = q' at *
  refine ⟨⟨?_, ?_⟩, ?_, ?_⟩ <;> grind
theorem eps_pos : 0 < eps ∧ eps ≤ 1 / 1000000 := by decide +kernel
theorem piE_bd : 0 ≤ piE ∧ piE ≤ 7854 / 10000 := by decide +kernel

theorem rot_err {a b c s : Rat} (a1 : -eps ≤ a) (a2 : a ≤ eps) (b1 : -eps ≤ b) (b2 : b ≤ eps) (c1 : -2 ≤ c) (c2 : c ≤ 2) (s1 : -2 ≤ s) (s2 : s ≤ 2) :
    (-(4 * eps) ≤ c * a - s * b ∧ c * a - s * b ≤ 4 * eps) ∧ (-(4 * eps) ≤ s * a + c * b ∧ s * a + c * b ≤ 4 * eps) := by
  have p1 := mbR c1 c2 a1 a2
  have p2 := mbR s1 s2 b1 b2
  have p3 := mbR s1 s2 a1 a2
  have p4 := mbR c1 c2 b1 b2
  refine ⟨⟨?_, ?_⟩, ?_, ?_⟩ <;> grind

theorem quarter_turns : ∀ h : Nat, h ≤ 4 → (-(5 * h * eps) ≤ co (2 * h * piE) - (sc h).1 ∧ co (2 * h * piE) - (sc h).1 ≤ 5 * h * eps) ∧ (-(5 * h * eps) ≤ si (2 * h * piE) - (sc h).2 ∧ si (2 * h * piE) - (sc h).2 ≤ 5 * h * eps)
  | 0, _ => by decide +kernel
  | h + 1, hh => by
    obtain ⟨⟨a1, a2⟩, a3, a4⟩ := quarter_turns h (by omega)
    obtain ⟨⟨b1, b2⟩, b3, b4⟩ := quarter_cs
    obtain ⟨e0, e1⟩ := eps_pos
    obtain ⟨p0, p1⟩ := piE_bd
    have hr : (h : Rat) ≤ 3 := by
      have : ((h : Nat) : Rat) ≤ ((3 : Nat) : Rat) := Rat.natCast_le_natCast.2 (by omega)
      exact this
    have h0 : (0 : Rat) ≤ (h : Rat) := Rat.natCast_nonneg
    have hs := sc_le h
    have q := Rat.mul_nonneg h0 p0
    have q2 := Rat.mul_nonneg (show (0 : Rat) ≤ 3 - h by grind) p0
    have c := co_add (x := 2 * h * piE) (y := 2 * piE) (by grind) (by grind) (by grind) (by grind)
    have d := si_add (x := 2 * h * piE) (y := 2 * piE) (by grind) (by grind) (by grind) (by grind)
    have e : 2 * ((h + 1 : Nat) : Rat) * piE = 2 * h * piE + 2 * piE := by
      rw [Rat.natCast_add]
      have : ((1 : Nat) : Rat) = 1 := rfl
      grind
    have eh : ((h + 1 : Nat) : Rat) = h + 1 := by rw [Rat.natCast_add]; rfl
    rw [e, eh]
    have f1 : (sc (h + 1)).1 = -(sc h).2 := rfl
    have f2 : (sc (h + 1)).2 = (sc h).1 := rfl
    rw [f1, f2]
    have q3 := Rat.mul_nonneg h0 (Rat.le_of_lt e0)
    have q4 := Rat.mul_nonneg (show (0 : Rat) ≤ 3 - h by grind) (Rat.le_of_lt e0)
    generalize co (2 * h * piE) = u at *
    generalize si (2 * h * piE) = v at *
    have r := rot_err (a := co (2 * piE)) (b := si (2 * piE) - 1) (c := u) (s := v) b1 b2 (by grind) (by grind) (by grind) (by grind) (by grind) (by grind)
    generalize co (2 * piE) = a at *
    generalize si (2 * piE) = b at *
    generalize co (2 * h * piE + 2 * piE) = C at *
    generalize si (2 * h * piE + 2 * piE) = S at *
    generalize (sc h).1 = s1 at *
    generalize (sc h).2 = s2 at *
    clear e eh q q2 p0 p1
    refine ⟨⟨?_, ?_⟩, ?_, ?_⟩ <;> grind

theorem cs_bd {x : Rat} (x0 : -(4/5) ≤ x) (x1 : x ≤ 4 / 5) : (-3 ≤ co x ∧ co x ≤ 3) ∧ (-3 ≤ si x ∧ si x ≤ 3) := by
  have hx := te_le x0 x1
  have t := short_te.2
  have l1 : -sm (te (4/5)) 90 ≤ co x ∧ co x ≤ sm (te (4/5)) 90 := sm_le _ _ (unit_le _ _ (fun m => (sc m).1) (fun m => (sc_le m).1) hx) 90
  have l2 : -sm (te (4/5)) 90 ≤ si x ∧ si x ≤ sm (te (4/5)) 90 := sm_le _ _ (unit_le _ _ (fun m => (sc m).2) (fun m => (sc_le m).2) hx) 90
  refine ⟨⟨?_, ?_⟩, ?_, ?_⟩ <;> grind

/-- So many quarters and a rest. -/
theorem rot_rest {x : Rat} (x0 : -(4/5) ≤ x) (x1 : x ≤ 4 / 5) (h : Nat) (hh : h ≤ 4) (hb : 2 * h * piE + x ≤ 63 / 10) :
    (-(128 * eps) ≤ co (2 * h * piE + x) - ((sc h).1 * co x - (sc h).2 * si x) ∧ co (2 * h * piE + x) - ((sc h).1 * co x - (sc h).2 * si x) ≤ 128 * eps) ∧
    (-(128 * eps) ≤ si (2 * h * piE + x) - ((sc h).2 * co x + (sc h).1 * si x) ∧ si (2 * h * piE + x) - ((sc h).2 * co x + (sc h).1 * si x) ≤ 128 * eps) := by
  obtain ⟨⟨a1, a2⟩, a3, a4⟩ := quarter_turns h hh
  obtain ⟨e0, e1⟩ := eps_pos
  obtain ⟨p0, p1⟩ := piE_bd
  obtain ⟨⟨c1, c2⟩, c3, c4⟩ := cs_bd x0 x1
  have hr : (h : Rat) ≤ 4 := by
    have : ((h : Nat) : Rat) ≤ ((4 : Nat) : Rat) := Rat.natCast_le_natCast.2 hh
    exact this
  have h0 : (0 : Rat) ≤ (h : Rat) := Rat.natCast_nonneg
  have q := Rat.mul_nonneg h0 p0
  have q2 := Rat.mul_nonneg (show (0 : Rat) ≤ 4 - h by grind) p0
  have q3 := Rat.mul_nonneg h0 (Rat.le_of_lt e0)
  have q4 := Rat.mul_nonneg (show (0 : Rat) ≤ 4 - h by grind) (Rat.le_of_lt e0)
  have c := co_add (x := 2 * h * piE) (y := x) (by grind) (by grind) (by grind) (by grind)
  have d := si_add (x := 2 * h * piE) (y := x) (by grind) (by grind) (by grind) (by grind)
  have m1 := mbR (A := 20 * eps) (B := 3) (show -(20 * eps) ≤ co (2 * h * piE) - (sc h).1 by grind) (by grind) c1 c2
  have m2 := mbR (A := 20 * eps) (B := 3) (show -(20 * eps) ≤ si (2 * h * piE) - (sc h).2 by grind) (by grind) c3 c4
  have m3 := mbR (A := 20 * eps) (B := 3) (show -(20 * eps) ≤ si (2 * h * piE) - (sc h).2 by grind) (by grind) c1 c2
  have m4 := mbR (A := 20 * eps) (B := 3) (show -(20 * eps) ≤ co (2 * h * piE) - (sc h).1 by grind) (by grind) c3 c4
  clear a1 a2 a3 a4 c1 c2 c3 c4 q q2 q3 q4 hr h0 hb p0 p1 x0 x1 e1
  generalize co (2 * h * piE + x) = C at *
  generalize si (2 * h * piE + x) = S at *
  generalize co (2 * h * piE) = u at *
  generalize si (2 * h * piE) = v at *
  generalize co x = y at *
  generalize si x = z at *
  generalize (sc h).1 = s1 at *
  generalize (sc h).2 = s2 at *
  refine ⟨⟨?_, ?_⟩, ?_, ?_⟩ <;> grind

theorem co_neg (x : Rat) : co (-x) = co x := cos_neg 90 x
theorem si_neg (x : Rat) : si (-x) = - si x := sin_neg 90 x

/-- The squares. -/
theorem circle {x : Rat} (x0 : -(63/10) ≤ x) (x1 : x ≤ 63/10) : -eps ≤ co x * co x + si x * si x - 1 ∧ co x * co x + si x * si x - 1 ≤ eps := by
  have h := co_add (x := x) (y := -x) x0 x1 (by grind) (by grind)
  rw [co_neg, si_neg, show x + -x = 0 by grind] at h
  have e : co 0 = 1 := by decide +kernel
  rw [e] at h
  constructor <;> grind

end Go.Proofs.Ytnpkblidlmkagaa
