import Derived.Test.YtnpkblidlmkagaaG9
import Derived.Test.YtnpkblidlmkagaaV9
import Derived.Test.YtnpkblidlmkagaaV8
import Derived.BigQuiet
/- Powers over factorials: cosines and sines by exact sums, their products, octants. -/
set_option linter.unusedSimpArgs false
set_option linter.unusedVariables false
namespace Go.Proofs.Ytnpkblidlmkagaa
open Fl

/-- Powers over factorials. -/
def te (x : Rat) : Nat → Rat
  | 0 => 1
  | j + 1 => te x j * x / ((j : Rat) + 1)
/-- The sum of the first n + 1. -/
def sm (f : Nat → Rat) : Nat → Rat
  | 0 => f 0
  | n + 1 => sm f n + f (n + 1)
/-- Real and imaginary part of i^m. -/
def sc : Nat → Rat × Rat
  | 0 => (1, 0)
  | m + 1 => (- (sc m).2, (sc m).1)

theorem sm_add (f g : Nat → Rat) : ∀ n, sm (fun j => f j + g j) n = sm f n + sm g n
  | 0 => rfl
  | n + 1 => by simp only [sm]; rw [sm_add f g n]; grind
theorem sm_congr (f g : Nat → Rat) : ∀ n, (∀ j, j ≤ n → f j = g j) → sm f n = sm g n
  | 0, h => h 0 (Nat.le_refl _)
  | n + 1, h => by simp only [sm]; rw [sm_congr f g n (fun j hj => h j (by omega)), h (n + 1) (Nat.le_refl _)]
theorem sm_mulr (f : Nat → Rat) (c : Rat) : ∀ n, sm (fun j => f j * c) n = sm f n * c
  | 0 => rfl
  | n + 1 => by simp only [sm]; rw [sm_mulr f c n]; grind
theorem sm_mull (f : Nat → Rat) (c : Rat) : ∀ n, sm (fun j => c * f j) n = c * sm f n
  | 0 => rfl
  | n + 1 => by simp only [sm]; rw [sm_mull f c n]; grind
theorem sm_shift (f : Nat → Rat) : ∀ n, sm f (n + 1) = f 0 + sm (fun j => f (j + 1)) n
  | 0 => rfl
  | n + 1 => by
    show sm f (n + 1) + f (n + 2) = f 0 + (sm (fun j => f (j + 1)) n + f (n + 2))
    rw [sm_shift f n]; grind
theorem sm_mul (f g : Nat → Rat) (m n : Nat) : sm f m * sm g n = sm (fun j => sm (fun k => f j * g k) n) m := by
  rw [← sm_mulr]
  apply sm_congr
  intro j _
  rw [sm_mull]
theorem sm_le (f F : Nat → Rat) (h : ∀ k, -F k ≤ f k ∧ f k ≤ F k) : ∀ n, -sm F n ≤ sm f n ∧ sm f n ≤ sm F n
  | 0 => h 0
  | n + 1 => by
    have h1 := sm_le f F h n
    have h2 := h (n + 1)
    simp only [sm]
    constructor <;> grind
theorem sm_tail (f F : Nat → Rat) (h : ∀ k, -F k ≤ f k ∧ f k ≤ F k) (m : Nat) : ∀ d, -(sm F (m + d) - sm F m) ≤ sm f (m + d) - sm f m ∧ sm f (m + d) - sm f m ≤ sm F (m + d) - sm F m
  | 0 => by constructor <;> grind
  | d + 1 => by
    have h1 := sm_tail f F h m d
    have h2 := h (m + d + 1)
    have e : ∀ f : Nat → Rat, sm f (m + (d + 1)) = sm f (m + d) + f (m + d + 1) := fun f => rfl
    rw [e, e]
    constructor <;> grind
theorem sm_sub (f g : Nat → Rat) : ∀ n, sm (fun j => f j - g j) n = sm f n - sm g n
  | 0 => rfl
  | n + 1 => by simp only [sm]; rw [sm_sub f g n]; grind

theorem nat_pos (j : Nat) : (0 : Rat) < (j : Rat) + 1 := by
  have : (0 : Rat) ≤ (j : Rat) := Rat.natCast_nonneg
  grind
theorem te_succ (x : Rat) (j : Nat) : ((j : Rat) + 1) * te x (j + 1) = x * te x j := by
  have h := nat_pos j
  show ((j : Rat) + 1) * (te x j * x / ((j : Rat) + 1)) = x * te x j
  grind

/-- The m-th term of a product. -/
def am (x y : Rat) (m : Nat) : Rat := sm (fun j => te x j * te y (m - j)) m

theorem am_succ (x y : Rat) (m : Nat) : ((m : Rat) + 1) * am x y (m + 1) = (x + y) * am x y m := by
  have e1 : ((m : Rat) + 1) * am x y (m + 1) = sm (fun j => (j : Rat) * (te x j * te y (m + 1 - j))) (m + 1) + sm (fun j => ((m + 1 - j : Nat) : Rat) * (te x j * te y (m + 1 - j))) (m + 1) := by
    unfold am
    rw [← sm_mull, ← sm_add]
    apply sm_congr
    intro j hj
    have e : ((m + 1 - j : Nat) : Rat) + (j : Rat) = (m : Rat) + 1 := by
      rw [← Rat.natCast_add, show m + 1 - j + j = m + 1 by omega, Rat.natCast_add]; rfl
    rw [← e]
    grind
  have e2 : sm (fun j => (j : Rat) * (te x j * te y (m + 1 - j))) (m + 1) = x * am x y m := by
    rw [sm_shift]
    unfold am
    rw [← sm_mull]
    have : ((0 : Nat) : Rat) * (te x 0 * te y (m + 1 - 0)) = 0 := by
      have : ((0 : Nat) : Rat) = 0 := rfl
      rw [this]; grind
    rw [this, Rat.zero_add]
    apply sm_congr
    intro j hj
    have h := te_succ x j
    rw [show m + 1 - (j + 1) = m - j by omega, Rat.natCast_add]
    have : ((1 : Nat) : Rat) = 1 := rfl
    rw [this]
    grind
  have e3 : sm (fun j => ((m + 1 - j : Nat) : Rat) * (te x j * te y (m + 1 - j))) (m + 1) = y * am x y m := by
    show sm (fun j => ((m + 1 - j : Nat) : Rat) * (te x j * te y (m + 1 - j))) m + ((m + 1 - (m + 1) : Nat) : Rat) * (te x (m + 1) * te y (m + 1 - (m + 1))) = _
    have : ((m + 1 - (m + 1) : Nat) : Rat) = 0 := by rw [Nat.sub_self]; rfl
    rw [this, Rat.zero_mul, Rat.add_zero]
    unfold am
    rw [← sm_mull]
    apply sm_congr
    intro j hj
    have h := te_succ y (m - j)
    rw [show m + 1 - j = (m - j) + 1 by omega, Rat.natCast_add]
    have : ((1 : Nat) : Rat) = 1 := rfl
    rw [this]
    grind
  rw [e1, e2, e3]
  grind

theorem cancR {a b c : Rat} (hc : 0 < c) (h : c * a = c * b) : a = b := by
  have : c ≠ 0 := by grind
  grind
theorem am_eq (x y : Rat) : ∀ m, am x y m = te (x + y) m
  | 0 => Rat.mul_one 1
  | m + 1 => by
    have h1 := am_succ x y m
    have h2 := te_succ (x + y) m
    rw [am_eq x y m] at h1
    exact cancR (nat_pos m) (h1.trans h2.symm)

/-- All products, and those up to n. -/
def sq (g : Nat → Nat → Rat) (n : Nat) : Rat := sm (fun j => sm (g j) n) n
def tri (g : Nat → Nat → Rat) (n : Nat) : Rat := sm (fun j => sm (g j) (n - j)) n

theorem tri_eq (g : Nat → Nat → Rat) : ∀ n, tri g n = sm (fun m => sm (fun j => g j (m - j)) m) n
  | 0 => rfl
  | n + 1 => by
    have ih := tri_eq g n
    have e : tri g (n + 1) = tri g n + sm (fun j => g j (n + 1 - j)) (n + 1) := by
      show sm (fun j => sm (g j) (n + 1 - j)) n + sm (g (n + 1)) (n + 1 - (n + 1)) = tri g n + (sm (fun j => g j (n + 1 - j)) n + g (n + 1) (n + 1 - (n + 1)))
      rw [Nat.sub_self]
      have e1 : sm (fun j => sm (g j) (n + 1 - j)) n = tri g n + sm (fun j => g j (n + 1 - j)) n := by
        unfold tri
        rw [← sm_add]
        apply sm_congr
        intro j hj
        rw [show n + 1 - j = (n - j) + 1 by omega]
        rfl
      rw [e1]
      show _ + g (n + 1) 0 = _
      grind
    rw [e, ih]
    rfl

theorem sq_tri (g G : Nat → Nat → Rat) (h : ∀ j k, -G j k ≤ g j k ∧ g j k ≤ G j k) (n : Nat) : -(sq G n - tri G n) ≤ sq g n - tri g n ∧ sq g n - tri g n ≤ sq G n - tri G n := by
  unfold sq tri
  rw [← sm_sub, ← sm_sub]
  have key : ∀ j, j ≤ n → -(sm (G j) n - sm (G j) (n - j)) ≤ sm (g j) n - sm (g j) (n - j) ∧ sm (g j) n - sm (g j) (n - j) ≤ sm (G j) n - sm (G j) (n - j) := by
    intro j hj
    have := sm_tail (g j) (G j) (h j) (n - j) j
    rwa [show n - j + j = n by omega] at this
  have : ∀ (f F : Nat → Rat) (n : Nat), (∀ j, j ≤ n → -F j ≤ f j ∧ f j ≤ F j) → -sm F n ≤ sm f n ∧ sm f n ≤ sm F n := by
    intro f F n
    induction n with
    | zero => intro h; exact h 0 (Nat.le_refl _)
    | succ n ih =>
      intro h
      have h1 := ih (fun j hj => h j (by omega))
      have h2 := h (n + 1) (Nat.le_refl _)
      simp only [sm]
      constructor <;> grind
  exact this _ _ n key

theorem sc_add (j : Nat) : ∀ k, (sc (j + k)).1 = (sc j).1 * (sc k).1 - (sc j).2 * (sc k).2 ∧ (sc (j + k)).2 = (sc j).2 * (sc k).1 + (sc j).1 * (sc k).2
  | 0 => by simp only [sc, Nat.add_zero]; constructor <;> grind
  | k + 1 => by
    obtain ⟨h1, h2⟩ := sc_add j k
    show -(sc (j + k)).2 = _ ∧ (sc (j + k)).1 = _
    simp only [sc]
    constructor <;> grind
theorem sc_le : ∀ m, (-1 ≤ (sc m).1 ∧ (sc m).1 ≤ 1) ∧ (-1 ≤ (sc m).2 ∧ (sc m).2 ≤ 1)
  | 0 => by simp only [sc]; decide +kernel
  | m + 1 => by
    have := sc_le m
    simp only [sc]
    grind

/-- Cosine and sine by n + 1 terms. -/
def cN (n : Nat) (x : Rat) : Rat := sm (fun m => (sc m).1 * te x m) n
def sN (n : Nat) (x : Rat) : Rat := sm (fun m => (sc m).2 * te x m) n

theorem te_nonneg {x : Rat} (h : 0 ≤ x) : ∀ j, 0 ≤ te x j
  | 0 => by show (0 : Rat) ≤ 1; decide +kernel
  | j + 1 => by
    have h1 := te_succ x j
    have h2 := Rat.mul_nonneg h (te_nonneg h j)
    have h3 := nat_pos j
    apply Decidable.byContradiction
    intro hc
    have h4 : 0 < - te x (j + 1) := by grind
    have h5 := Rat.mul_pos h3 h4
    grind
theorem mbR {a b A B : Rat} (h1 : -A ≤ a) (h2 : a ≤ A) (h3 : -B ≤ b) (h4 : b ≤ B) : -(A * B) ≤ a * b ∧ a * b ≤ A * B := by
  have p1 := Rat.mul_nonneg (show 0 ≤ A - a by grind) (show 0 ≤ B - b by grind)
  have p2 := Rat.mul_nonneg (show 0 ≤ A - a by grind) (show 0 ≤ B + b by grind)
  have p3 := Rat.mul_nonneg (show 0 ≤ A + a by grind) (show 0 ≤ B - b by grind)
  have p4 := Rat.mul_nonneg (show 0 ≤ A + a by grind) (show 0 ≤ B + b by grind)
  constructor <;> grind
theorem te_le {x X : Rat} (h1 : -X ≤ x) (h2 : x ≤ X) : ∀ j, -te X j ≤ te x j ∧ te x j ≤ te X j
  | 0 => by show -(1 : Rat) ≤ 1 ∧ (1 : Rat) ≤ 1; decide +kernel
  | j + 1 => by
    obtain ⟨a1, a2⟩ := te_le h1 h2 j
    have p := mbR a1 a2 h1 h2
    have e1 := te_succ x j
    have e2 := te_succ X j
    have h3 := nat_pos j
    constructor
    · apply Decidable.byContradiction
      intro hc
      have h4 : 0 < - te X (j + 1) - te x (j + 1) := by grind
      have h5 := Rat.mul_pos h3 h4
      grind
    · apply Decidable.byContradiction
      intro hc
      have h4 : 0 < te x (j + 1) - te X (j + 1) := by grind
      have h5 := Rat.mul_pos h3 h4
      grind

/-- What is left out. -/
def tau (n : Nat) (X Y : Rat) : Rat := sm (te X) n * sm (te Y) n - sm (te (X + Y)) n

theorem prod_gen {x y X Y : Rat} (hx1 : -X ≤ x) (hx2 : x ≤ X) (hy1 : -Y ≤ y) (hy2 : y ≤ Y) (n : Nat) (s : Nat → Rat) (hs : ∀ m, -1 ≤ s m ∧ s m ≤ 1) :
    -tau n X Y ≤ sm (fun j => sm (fun k => s (j + k) * (te x j * te y k)) n) n - sm (fun m => s m * te (x + y) m) n ∧ sm (fun j => sm (fun k => s (j + k) * (te x j * te y k)) n) n - sm (fun m => s m * te (x + y) m) n ≤ tau n X Y := by
  have h := sq_tri (fun j k => s (j + k) * (te x j * te y k)) (fun j k => te X j * te Y k) (fun j k => by
    obtain ⟨a1, a2⟩ := te_le hx1 hx2 j
    obtain ⟨b1, b2⟩ := te_le hy1 hy2 k
    have p := mbR a1 a2 b1 b2
    have q := mbR (hs (j + k)).1 (hs (j + k)).2 p.1 p.2
    rw [Rat.one_mul] at q
    exact q) n
  have e1 : tri (fun j k => te X j * te Y k) n = sm (te (X + Y)) n := by
    rw [tri_eq]; exact sm_congr _ _ n (fun m _ => am_eq X Y m)
  have e2 : sq (fun j k => te X j * te Y k) n = sm (te X) n * sm (te Y) n := (sm_mul _ _ n n).symm
  have e3 : tri (fun j k => s (j + k) * (te x j * te y k)) n = sm (fun m => s m * te (x + y) m) n := by
    rw [tri_eq]
    apply sm_congr
    intro m _
    rw [← am_eq]
    unfold am
    rw [← sm_mull]
    apply sm_congr
    intro j hj
    show s (j + (m - j)) * _ = _
    rw [show j + (m - j) = m by omega]
  rw [e1, e2, e3] at h
  exact h

theorem add_cos {x y X Y : Rat} (hx1 : -X ≤ x) (hx2 : x ≤ X) (hy1 : -Y ≤ y) (hy2 : y ≤ Y) (n : Nat) :
    -tau n X Y ≤ cN n x * cN n y - sN n x * sN n y - cN n (x + y) ∧ cN n x * cN n y - sN n x * sN n y - cN n (x + y) ≤ tau n X Y := by
  have h := prod_gen hx1 hx2 hy1 hy2 n (fun m => (sc m).1) (fun m => (sc_le m).1)
  have e : sm (fun j => sm (fun k => (sc (j + k)).1 * (te x j * te y k)) n) n = cN n x * cN n y - sN n x * sN n y := by
    unfold cN sN
    rw [sm_mul, sm_mul, ← sm_sub]
    apply sm_congr
    intro j _
    rw [← sm_sub]
    apply sm_congr
    intro k _
    rw [(sc_add j k).1]
    grind
  rw [e] at h
  exact h
theorem add_sin {x y X Y : Rat} (hx1 : -X ≤ x) (hx2 : x ≤ X) (hy1 : -Y ≤ y) (hy2 : y ≤ Y) (n : Nat) :
    -tau n X Y ≤ sN n x * cN n y + cN n x * sN n y - sN n (x + y) ∧ sN n x * cN n y + cN n x * sN n y - sN n (x + y) ≤ tau n X Y := by
  have h := prod_gen hx1 hx2 hy1 hy2 n (fun m => (sc m).2) (fun m => (sc_le m).2)
  have e : sm (fun j => sm (fun k => (sc (j + k)).2 * (te x j * te y k)) n) n = sN n x * cN n y + cN n x * sN n y := by
    unfold cN sN
    rw [sm_mul, sm_mul, ← sm_add]
    apply sm_congr
    intro j _
    rw [← sm_add]
    apply sm_congr
    intro k _
    rw [(sc_add j k).2]
    grind
  rw [e] at h
  exact h

theorem neg_terms (x : Rat) : ∀ j, (sc j).1 * te (-x) j = (sc j).1 * te x j ∧ (sc j).2 * te (-x) j = -((sc j).2 * te x j)
  | 0 => by simp only [sc, te]; constructor <;> grind
  | j + 1 => by
    obtain ⟨h1, h2⟩ := neg_terms x j
    have e1 := te_succ x j
    have e2 := te_succ (-x) j
    have h3 := nat_pos j
    simp only [sc]
    have n3 : (j : Rat) + 1 ≠ 0 := by grind
    have f1 : te x (j + 1) = te x j * x / ((j : Rat) + 1) := rfl
    have f2 : te (-x) (j + 1) = te (-x) j * (-x) / ((j : Rat) + 1) := rfl
    rw [f1, f2]
    constructor <;> grind
theorem cos_neg (n : Nat) (x : Rat) : cN n (-x) = cN n x := sm_congr _ _ n (fun j _ => (neg_terms x j).1)
theorem sin_neg (n : Nat) (x : Rat) : sN n (-x) = - sN n x := by
  have e : - sN n x = sm (fun m => -1 * ((sc m).2 * te x m)) n := by rw [sm_mull]; unfold sN; grind
  rw [e]
  apply sm_congr
  intro j _
  rw [(neg_terms x j).2]; grind
/-- The document's terms, against those that are exact. -/
theorem rT_te {X : Int} {x : Rat} (X0 : 0 ≤ X) (X1 : X ≤ 1329227995784915872903807060280344576) (x0 : 0 ≤ x) (x1 : x ≤ 4 / 5)
    (h1 : (X : Rat) ≤ 1329227995784915872903807060280344576 * x) (h2 : 1329227995784915872903807060280344576 * x ≤ (X : Rat) + 1) :
    ∀ i, -4 ≤ (rT X i : Rat) - 1329227995784915872903807060280344576 * te x i ∧ (rT X i : Rat) - 1329227995784915872903807060280344576 * te x i ≤ 0
  | 0 => by
    show -4 ≤ ((1329227995784915872903807060280344576 : Int) : Rat) - 1329227995784915872903807060280344576 * 1 ∧ ((1329227995784915872903807060280344576 : Int) : Rat) - 1329227995784915872903807060280344576 * 1 ≤ 0
    decide +kernel
  | 1 => by
    have e : te x 1 = x := by
      have := te_succ x 0
      have e0 : te x 0 = 1 := rfl
      have e1 : ((0 : Nat) : Rat) = 0 := rfl
      rw [e0, e1] at this
      grind
    rw [rT_one, e]
    constructor <;> grind
  | i + 2 => by
    obtain ⟨d1, d2⟩ := rT_te X0 X1 x0 x1 h1 h2 (i + 1)
    have e := te_succ x (i + 1)
    have hb := rT_bd X0 X1 (i + 1)
    have hr : rT X (i + 1 + 1) = rT X (i + 1) * X / 2 ^ 120 / (((i + 1 : Nat) : Int) + 1) := rfl
    rw [e120] at hr
    obtain ⟨y, hy⟩ : ∃ y, y = rT X (i + 1) * X / 1329227995784915872903807060280344576 := ⟨_, rfl⟩
    rw [← hy] at hr
    have g1 := Int.mul_ediv_self_le (x := y) (k := ((i + 1 : Nat) : Int) + 1) (by omega)
    have g2 := Int.lt_mul_ediv_self_add (x := y) (k := ((i + 1 : Nat) : Int) + 1) (by omega)
    rw [← hr] at g1 g2
    obtain ⟨t, ht⟩ : ∃ t, t = rT X (i + 1) := ⟨_, rfl⟩
    obtain ⟨t', ht'⟩ : ∃ t', t' = rT X (i + 1 + 1) := ⟨_, rfl⟩
    rw [← ht] at d1 d2 hy hb
    rw [← ht'] at g1 g2
    show -4 ≤ (rT X (i + 1 + 1) : Rat) - _ * te x (i + 1 + 1) ∧ (rT X (i + 1 + 1) : Rat) - _ * te x (i + 1 + 1) ≤ 0
    rw [← ht']
    clear hr ht ht'
    -- over the rationals
    have k1 : 1329227995784915872903807060280344576 * ((((i + 1 : Nat) : Rat) + 1) * (t' : Rat)) ≤ (t : Rat) * (X : Rat) := by
      have : 1329227995784915872903807060280344576 * ((((i + 1 : Nat) : Int) + 1) * t') ≤ t * X := by
        generalize (((i + 1 : Nat) : Int) + 1) * t' = z at *
        generalize t * X = p at *
        omega
      have := Rat.intCast_le_intCast.2 this
      rw [Rat.intCast_mul, Rat.intCast_mul, Rat.intCast_mul, Rat.intCast_add] at this
      exact this
    have k2 : (t : Rat) * (X : Rat) ≤ 1329227995784915872903807060280344576 * ((((i + 1 : Nat) : Rat) + 1) * (t' : Rat)) + 1329227995784915872903807060280344576 * (((i + 1 : Nat) : Rat) + 1) := by
      have : t * X ≤ 1329227995784915872903807060280344576 * ((((i + 1 : Nat) : Int) + 1) * t') + 1329227995784915872903807060280344576 * (((i + 1 : Nat) : Int) + 1) := by
        generalize (((i + 1 : Nat) : Int) + 1) * t' = z at *
        generalize t * X = p at *
        omega
      have := Rat.intCast_le_intCast.2 this
      rw [Rat.intCast_mul, Rat.intCast_add, Rat.intCast_mul, Rat.intCast_mul, Rat.intCast_mul, Rat.intCast_add] at this
      exact this
    have k3 : (0 : Rat) ≤ (t : Rat) := by have := Rat.intCast_le_intCast.2 hb.1; exact this
    have k4 : (t : Rat) ≤ 1329227995784915872903807060280344576 := by have := Rat.intCast_le_intCast.2 hb.2.1; exact this
    have a2 : (2 : Rat) ≤ ((i + 1 : Nat) : Rat) + 1 := by
      have : (0 : Rat) ≤ (i : Rat) := Rat.natCast_nonneg
      rw [Rat.natCast_add]
      have : ((1 : Nat) : Rat) = 1 := rfl
      grind
    generalize ((i + 1 : Nat) : Rat) + 1 = a at *
    generalize (t : Rat) = u at *
    generalize (t' : Rat) = v at *
    generalize (X : Rat) = z at *
    generalize te x (i + 1) = w at *
    generalize te x (i + 1 + 1) = w' at *
    clear g1 g2 hy hb y X0 X1
    -- a (v - H w') = ..
    have m1 := Rat.mul_nonneg k3 (show 0 ≤ 1329227995784915872903807060280344576 * x - z by grind)
    have m2 := Rat.mul_nonneg k3 (show 0 ≤ z + 1 - 1329227995784915872903807060280344576 * x by grind)
    have m3 := Rat.mul_nonneg x0 (show 0 ≤ 1329227995784915872903807060280344576 * w - u by grind)
    have m4 := Rat.mul_nonneg x0 (show 0 ≤ 4 - (1329227995784915872903807060280344576 * w - u) by grind)
    constructor
    · apply Decidable.byContradiction
      intro hc
      have hp := Rat.mul_pos (show 0 < a by grind) (show 0 < -4 - (v - 1329227995784915872903807060280344576 * w') by grind)
      clear m1 m3 k1 hc h1 h2
      grind
    · apply Decidable.byContradiction
      intro hc
      have hp := Rat.mul_pos (show 0 < a by grind) (show 0 < v - 1329227995784915872903807060280344576 * w' by grind)
      clear m2 m4
      grind
theorem sc_mod : ∀ k, sc k = if k % 4 = 0 then (1, 0) else if k % 4 = 1 then (0, 1) else if k % 4 = 2 then (-1, 0) else (0, -1)
  | 0 => rfl
  | k + 1 => by
    have ih := sc_mod k
    show (-(sc k).2, (sc k).1) = _
    rw [ih]
    rcases (show k % 4 = 0 ∨ k % 4 = 1 ∨ k % 4 = 2 ∨ k % 4 = 3 by omega) with h | h | h | h
    · have : (k + 1) % 4 = 1 := by omega
      simp [h, this]
    · have : (k + 1) % 4 = 2 := by omega
      simp [h, this]
    · have : (k + 1) % 4 = 3 := by omega
      simp [h, this]
    · have : (k + 1) % 4 = 0 := by omega
      simp [h, this]

theorem rS_sc (X : Int) : ∀ k, sm (fun i => (sc i).1 * (rT X i : Rat)) k = (rS X (k + 1) 0 : Rat) - (rS X (k + 1) 2 : Rat) ∧ sm (fun i => (sc i).2 * (rT X i : Rat)) k = (rS X (k + 1) 1 : Rat) - (rS X (k + 1) 3 : Rat) := by
  have step : ∀ k, (sc k).1 * (rT X k : Rat) = ((rS X (k + 1) 0 : Rat) - (rS X (k + 1) 2 : Rat)) - ((rS X k 0 : Rat) - (rS X k 2 : Rat)) ∧ (sc k).2 * (rT X k : Rat) = ((rS X (k + 1) 1 : Rat) - (rS X (k + 1) 3 : Rat)) - ((rS X k 1 : Rat) - (rS X k 3 : Rat)) := by
    intro k
    have e : ∀ j, rS X (k + 1) j = if k % 4 = j then rS X k j + rT X k else rS X k j := fun j => rfl
    rw [e, e, e, e, sc_mod k]
    rcases (show k % 4 = 0 ∨ k % 4 = 1 ∨ k % 4 = 2 ∨ k % 4 = 3 by omega) with h | h | h | h <;> simp [h, Rat.intCast_add] <;> constructor <;> grind
  intro k
  induction k with
  | zero =>
    have h := step 0
    have z : ∀ j, (rS X 0 j : Rat) = 0 := fun j => rfl
    rw [z, z, z, z] at h
    constructor
    · show (sc 0).1 * (rT X 0 : Rat) = _
      grind
    · show (sc 0).2 * (rT X 0 : Rat) = _
      grind
  | succ k ih =>
    have h := step (k + 1)
    constructor
    · show sm (fun i => (sc i).1 * (rT X i : Rat)) k + (sc (k + 1)).1 * (rT X (k + 1) : Rat) = _
      rw [ih.1]; grind
    · show sm (fun i => (sc i).2 * (rT X i : Rat)) k + (sc (k + 1)).2 * (rT X (k + 1) : Rat) = _
      rw [ih.2]; grind

abbrev co (x : Rat) : Rat := cN 90 x
abbrev si (x : Rat) : Rat := sN 90 x
/-- An eighth of a turn. -/
def piE : Rat := (1043973226625944089706719114415889436 : Rat) / 1329227995784915872903807060280344576
/-- 2^-110. -/
def eps : Rat := 1 / 1298074214633706907132624082305024
theorem tau_small : tau 90 (63/10) (63/10) ≤ eps := by decide +kernel
theorem quarter_cs : (-eps ≤ co (2 * piE) ∧ co (2 * piE) ≤ eps) ∧ (1 - eps ≤ si (2 * piE) ∧ si (2 * piE) ≤ 1 + eps) := by decide +kernel
theorem short_te : sm (te (4/5)) 90 - sm (te (4/5)) 31 ≤ eps ∧ sm (te (4/5)) 90 ≤ 3 := by decide +kernel
theorem four32 : sm (fun _ => 4) 31 = 128 := by decide +kernel

theorem co_add {x y : Rat} (hx1 : -(63/10) ≤ x) (hx2 : x ≤ 63/10) (hy1 : -(63/10) ≤ y) (hy2 : y ≤ 63/10) : -eps ≤ co x * co y - si x * si y - co (x + y) ∧ co x * co y - si x * si y - co (x + y) ≤ eps := by
  have h := add_cos hx1 hx2 hy1 hy2 90
  have t := tau_small
  constructor <;> grind
theorem si_add {x y : Rat} (hx1 : -(63/10) ≤ x) (hx2 : x ≤ 63/10) (hy1 : -(63/10) ≤ y) (hy2 : y ≤ 63/10) : -eps ≤ si x * co y + co x * si y - si (x + y) ∧ si x * co y + co x * si y - si (x + y) ≤ eps := by
  have h := add_sin hx1 hx2 hy1 hy2 90
  have t := tau_small
  constructor <;> grind

theorem unit_le (f : Nat → Rat) (F : Nat → Rat) (s : Nat → Rat) (hs : ∀ m, -1 ≤ s m ∧ s m ≤ 1) (h : ∀ k, -F k ≤ f k ∧ f k ≤ F k) (k : Nat) : -F k ≤ s k * f k ∧ s k * f k ≤ F k := by
  have := mbR (hs k).1 (hs k).2 (h k).1 (h k).2
  rw [Rat.one_mul] at this
  exact this

/-- What the document's Near says, against the exact ones. -/
theorem doc_exact {X : Int} {x : Rat} (X0 : 0 ≤ X) (X1 : X ≤ 1329227995784915872903807060280344576) (x0 : 0 ≤ x) (x1 : x ≤ 4 / 5)
    (h1 : (X : Rat) ≤ 1329227995784915872903807060280344576 * x) (h2 : 1329227995784915872903807060280344576 * x ≤ (X : Rat) + 1) :
    (-2048 ≤ ((rS X 32 0 - rS X 32 2 : Int) : Rat) - 1329227995784915872903807060280344576 * co x ∧ ((rS X 32 0 - rS X 32 2 : Int) : Rat) - 1329227995784915872903807060280344576 * co x ≤ 2048) ∧
    (-2048 ≤ ((rS X 32 1 - rS X 32 3 : Int) : Rat) - 1329227995784915872903807060280344576 * si x ∧ ((rS X 32 1 - rS X 32 3 : Int) : Rat) - 1329227995784915872903807060280344576 * si x ≤ 2048) := by
  have hte := rT_te X0 X1 x0 x1 h1 h2
  have hb : ∀ k : Nat, -4 ≤ (rT X k : Rat) - 1329227995784915872903807060280344576 * te x k ∧ (rT X k : Rat) - 1329227995784915872903807060280344576 * te x k ≤ 4 := fun k => ⟨(hte k).1, by have := (hte k).2; grind⟩
  obtain ⟨s1, s2⟩ := rS_sc X 31
  have c1 : (((rS X 32 0 - rS X 32 2 : Int)) : Rat) = (rS X 32 0 : Rat) - (rS X 32 2 : Rat) := Rat.intCast_sub _ _
  have c2 : (((rS X 32 1 - rS X 32 3 : Int)) : Rat) = (rS X 32 1 : Rat) - (rS X 32 3 : Rat) := Rat.intCast_sub _ _
  rw [c1, c2, ← s1, ← s2]
  have t0 := short_te.1
  have k1 := sm_le _ (fun _ => 4) (unit_le _ (fun _ => 4) (fun m => (sc m).1) (fun m => (sc_le m).1) hb) 31
  have k2 := sm_le _ (fun _ => 4) (unit_le _ (fun _ => 4) (fun m => (sc m).2) (fun m => (sc_le m).2) hb) 31
  have hx : ∀ k, -te (4/5) k ≤ te x k ∧ te x k ≤ te (4/5) k := te_le (by grind) x1
  have l1 := sm_tail _ _ (unit_le _ _ (fun m => (sc m).1) (fun m => (sc_le m).1) hx) 31 59
  have l2 := sm_tail _ _ (unit_le _ _ (fun m => (sc m).2) (fun m => (sc_le m).2) hx) 31 59
  have e1 : sm (fun k => (sc k).1 * ((rT X k : Rat) - 1329227995784915872903807060280344576 * te x k)) 31 = sm (fun i => (sc i).1 * (rT X i : Rat)) 31 - 1329227995784915872903807060280344576 * cN 31 x := by
    unfold cN
    rw [← sm_mull, ← sm_sub]
    exact sm_congr _ _ 31 (fun j _ => by grind)
  have e2 : sm (fun k => (sc k).2 * ((rT X k : Rat) - 1329227995784915872903807060280344576 * te x k)) 31 = sm (fun i => (sc i).2 * (rT X i : Rat)) 31 - 1329227995784915872903807060280344576 * sN 31 x := by
    unfold sN
    rw [← sm_mull, ← sm_sub]
    exact sm_congr _ _ 31 (fun j _ => by grind)
  rw [e1, four32] at k1
  rw [e2, four32] at k2
  have m1 : -(sm (te (4/5)) 90 - sm (te (4/5)) 31) ≤ co x - cN 31 x ∧ co x - cN 31 x ≤ sm (te (4/5)) 90 - sm (te (4/5)) 31 := l1
  have m2 : -(sm (te (4/5)) 90 - sm (te (4/5)) 31) ≤ si x - sN 31 x ∧ si x - sN 31 x ≤ sm (te (4/5)) 90 - sm (te (4/5)) 31 := l2
  have he : 1329227995784915872903807060280344576 * eps = 1024 := by decide +kernel
  clear l1 l2 e1 e2 s1 s2 c1 c2 hte hb hx h1 h2 X0 X1
  generalize sm (fun i => (sc i).1 * (rT X i : Rat)) 31 = u at *
  generalize sm (fun i => (sc i).2 * (rT X i : Rat)) 31 = v at *
  generalize sm (te (4/5)) 90 - sm (te (4/5)) 31 = d at *
  generalize co x = p at *
  generalize si x = q at *
  generalize cN 31 x = p' at *
  generalize sN 31 x = q' at *
  refine ⟨⟨?_, ?_⟩, ?_, ?_⟩ <;> grind
theorem eps_pos : 0 < eps ∧ eps ≤ 1 / 1000000 := by decide +kernel
theorem piE_bd : 0 ≤ piE ∧ piE ≤ 7854 / 10000 := by decide +kernel

theorem rot_err {a b c s : Rat} (a1 : -eps ≤ a) (a2 : a ≤ eps) (b1 : -eps ≤ b) (b2 : b ≤ eps) (c1 : -2 ≤ c) (c2 : c ≤ 2) (s1 : -2 ≤ s) (s2 : s ≤ 2) :
    (-(4 * eps) ≤ c * a - s * b ∧ c * a - s * b ≤ 4 * eps) ∧ (-(4 * eps) ≤ s * a + c * b ∧ s * a + c * b ≤ 4 * eps) := by
  have p1 := mbR c1 c2 a1 a2
  have p2 := mbR s1 s2 b1 b2
  have p3 := mbR s1 s2 a1 a2
  have p4 := mbR c1 c2 b1 b2
  refine ⟨⟨?_, ?_⟩, ?_, ?_⟩ <;> grind

theorem quarter_turns : ∀ h : Nat, h ≤ 4 → (-(5 * h * eps) ≤ co (2 * h * piE) - (sc h).1 ∧ co (2 * h * piE) - (sc h).1 ≤ 5 * h * eps) ∧ (-(5 * h * eps) ≤ si (2 * h * piE) - (sc h).2 ∧ si (2 * h * piE) - (sc h).2 ≤ 5 * h * eps)
  | 0, _ => by decide +kernel
  | h + 1, hh => by
    obtain ⟨⟨a1, a2⟩, a3, a4⟩ := quarter_turns h (by omega)
    obtain ⟨⟨b1, b2⟩, b3, b4⟩ := quarter_cs
    obtain ⟨e0, e1⟩ := eps_pos
    obtain ⟨p0, p1⟩ := piE_bd
    have hr : (h : Rat) ≤ 3 := by
      have : ((h : Nat) : Rat) ≤ ((3 : Nat) : Rat) := Rat.natCast_le_natCast.2 (by omega)
      exact this
    have h0 : (0 : Rat) ≤ (h : Rat) := Rat.natCast_nonneg
    have hs := sc_le h
    have q := Rat.mul_nonneg h0 p0
    have q2 := Rat.mul_nonneg (show (0 : Rat) ≤ 3 - h by grind) p0
    have c := co_add (x := 2 * h * piE) (y := 2 * piE) (by grind) (by grind) (by grind) (by grind)
    have d := si_add (x := 2 * h * piE) (y := 2 * piE) (by grind) (by grind) (by grind) (by grind)
    have e : 2 * ((h + 1 : Nat) : Rat) * piE = 2 * h * piE + 2 * piE := by
      rw [Rat.natCast_add]
      have : ((1 : Nat) : Rat) = 1 := rfl
      grind
    have eh : ((h + 1 : Nat) : Rat) = h + 1 := by rw [Rat.natCast_add]; rfl
    rw [e, eh]
    have f1 : (sc (h + 1)).1 = -(sc h).2 := rfl
    have f2 : (sc (h + 1)).2 = (sc h).1 := rfl
    rw [f1, f2]
    have q3 := Rat.mul_nonneg h0 (Rat.le_of_lt e0)
    have q4 := Rat.mul_nonneg (show (0 : Rat) ≤ 3 - h by grind) (Rat.le_of_lt e0)
    generalize co (2 * h * piE) = u at *
    generalize si (2 * h * piE) = v at *
    have r := rot_err (a := co (2 * piE)) (b := si (2 * piE) - 1) (c := u) (s := v) b1 b2 (by grind) (by grind) (by grind) (by grind) (by grind) (by grind)
    generalize co (2 * piE) = a at *
    generalize si (2 * piE) = b at *
    generalize co (2 * h * piE + 2 * piE) = C at *
    generalize si (2 * h * piE + 2 * piE) = S at *
    generalize (sc h).1 = s1 at *
    generalize (sc h).2 = s2 at *
    clear e eh q q2 p0 p1
    refine ⟨⟨?_, ?_⟩, ?_, ?_⟩ <;> grind

theorem cs_bd {x : Rat} (x0 : -(4/5) ≤ x) (x1 : x ≤ 4 / 5) : (-3 ≤ co x ∧ co x ≤ 3) ∧ (-3 ≤ si x ∧ si x ≤ 3) := by
  have hx := te_le x0 x1
  have t := short_te.2
  have l1 : -sm (te (4/5)) 90 ≤ co x ∧ co x ≤ sm (te (4/5)) 90 := sm_le _ _ (unit_le _ _ (fun m => (sc m).1) (fun m => (sc_le m).1) hx) 90
  have l2 : -sm (te (4/5)) 90 ≤ si x ∧ si x ≤ sm (te (4/5)) 90 := sm_le _ _ (unit_le _ _ (fun m => (sc m).2) (fun m => (sc_le m).2) hx) 90
  refine ⟨⟨?_, ?_⟩, ?_, ?_⟩ <;> grind

/-- So many quarters and a rest. -/
theorem rot_rest {x : Rat} (x0 : -(4/5) ≤ x) (x1 : x ≤ 4 / 5) (h : Nat) (hh : h ≤ 4) (hb : 2 * h * piE + x ≤ 63 / 10) :
    (-(128 * eps) ≤ co (2 * h * piE + x) - ((sc h).1 * co x - (sc h).2 * si x) ∧ co (2 * h * piE + x) - ((sc h).1 * co x - (sc h).2 * si x) ≤ 128 * eps) ∧
    (-(128 * eps) ≤ si (2 * h * piE + x) - ((sc h).2 * co x + (sc h).1 * si x) ∧ si (2 * h * piE + x) - ((sc h).2 * co x + (sc h).1 * si x) ≤ 128 * eps) := by
  obtain ⟨⟨a1, a2⟩, a3, a4⟩ := quarter_turns h hh
  obtain ⟨e0, e1⟩ := eps_pos
  obtain ⟨p0, p1⟩ := piE_bd
  obtain ⟨⟨c1, c2⟩, c3, c4⟩ := cs_bd x0 x1
  have hr : (h : Rat) ≤ 4 := by
    have : ((h : Nat) : Rat) ≤ ((4 : Nat) : Rat) := Rat.natCast_le_natCast.2 hh
    exact this
  have h0 : (0 : Rat) ≤ (h : Rat) := Rat.natCast_nonneg
  have q := Rat.mul_nonneg h0 p0
  have q2 := Rat.mul_nonneg (show (0 : Rat) ≤ 4 - h by grind) p0
  have q3 := Rat.mul_nonneg h0 (Rat.le_of_lt e0)
  have q4 := Rat.mul_nonneg (show (0 : Rat) ≤ 4 - h by grind) (Rat.le_of_lt e0)
  have c := co_add (x := 2 * h * piE) (y := x) (by grind) (by grind) (by grind) (by grind)
  have d := si_add (x := 2 * h * piE) (y := x) (by grind) (by grind) (by grind) (by grind)
  have m1 := mbR (A := 20 * eps) (B := 3) (show -(20 * eps) ≤ co (2 * h * piE) - (sc h).1 by grind) (by grind) c1 c2
  have m2 := mbR (A := 20 * eps) (B := 3) (show -(20 * eps) ≤ si (2 * h * piE) - (sc h).2 by grind) (by grind) c3 c4
  have m3 := mbR (A := 20 * eps) (B := 3) (show -(20 * eps) ≤ si (2 * h * piE) - (sc h).2 by grind) (by grind) c1 c2
  have m4 := mbR (A := 20 * eps) (B := 3) (show -(20 * eps) ≤ co (2 * h * piE) - (sc h).1 by grind) (by grind) c3 c4
  clear a1 a2 a3 a4 c1 c2 c3 c4 q q2 q3 q4 hr h0 hb p0 p1 x0 x1 e1
  generalize co (2 * h * piE + x) = C at *
  generalize si (2 * h * piE + x) = S at *
  generalize co (2 * h * piE) = u at *
  generalize si (2 * h * piE) = v at *
  generalize co x = y at *
  generalize si x = z at *
  generalize (sc h).1 = s1 at *
  generalize (sc h).2 = s2 at *
  refine ⟨⟨?_, ?_⟩, ?_, ?_⟩ <;> grind

theorem co_neg (x : Rat) : co (-x) = co x := cos_neg 90 x
theorem si_neg (x : Rat) : si (-x) = - si x := sin_neg 90 x

/-- The squares. -/
theorem circle {x : Rat} (x0 : -(63/10) ≤ x) (x1 : x ≤ 63/10) : -eps ≤ co x * co x + si x * si x - 1 ∧ co x * co x + si x * si x - 1 ≤ eps := by
  have h := co_add (x := x) (y := -x) x0 x1 (by grind) (by grind)
  rw [co_neg, si_neg, show x + -x = 0 by grind] at h
  have e : co 0 = 1 := by decide +kernel
  rw [e] at h
  constructor <;> grind

end Go.Proofs.Ytnpkblidlmkagaa

/- What the program gives, against the exact cosines and sines. -/
set_option linter.unusedSimpArgs false
set_option linter.unusedVariables false
namespace Go.Proofs.Ytnpkblidlmkagaa
open Fl

/-- A number within 2003 times 2^-100 of e. -/
structure Acc (S : Int) (a : Nat × Nat) (e : Rat) : Prop where
  out : ∃ v : Int, Ok a v ∧ -(2003 * (S : Rat)) ≤ 1267650600228229401496703205376 * ((v : Rat) - S * e) ∧ 1267650600228229401496703205376 * ((v : Rat) - S * e) ≤ 2003 * (S : Rat)

theorem Acc.neg {S : Int} {a : Nat × Nat} {e : Rat} (h : Acc S a e) : Acc S (negP a) (-e) := by
  obtain ⟨v, h1, h2, h3⟩ := h.out
  refine ⟨-v, h1.neg, ?_, ?_⟩ <;> rw [Rat.intCast_neg] <;> grind
theorem Ok.plain' {a : Nat × Nat} {v : Int} (h : Ok a v) : Ok (plainF a) v := by
  unfold plainF
  split
  · rename_i h0
    have hr := rnd_rel v
    rw [h.neat, h0] at hr
    have e53 : (2 : Int) ^ 53 = 9007199254740992 := by decide
    rw [e53] at hr
    have hv : v = 0 := by omega
    rw [hv]; exact ok_zero
  · exact h
theorem Acc.plain {S : Int} {a : Nat × Nat} {e : Rat} (h : Acc S a e) : Acc S (plainF a) e := by
  obtain ⟨v, h1, h2, h3⟩ := h.out
  exact ⟨v, h1.plain', h2, h3⟩

theorem rS_zero_c' : rS 0 32 0 - rS 0 32 2 = 1329227995784915872903807060280344576 := by decide +kernel
theorem rS_zero_s' : rS 0 32 1 - rS 0 32 3 = 0 := by decide +kernel

/-- Near, within 2001 times 2^20 units of D. -/
theorem near_law' {S D r n X : Int} (hS : S = ((2 ^ U : Nat) : Int)) (hSD : S = 1329227995784915872903807060280344576 * D) (hD : 0 < D) (r0 : 0 ≤ r) (rn : r ≤ n) (n1 : 1 ≤ n) (n2 : n ≤ 1099511627776) (hX : X = eighth120 * r / n) :
    ∃ vc vs, Ok (nC n r) vc ∧ Ok (nS n r) vs ∧ (vc - (rS X 32 0 - rS X 32 2) * D ≤ 2001 * (1048576 * D) ∧ -(2001 * (1048576 * D)) ≤ vc - (rS X 32 0 - rS X 32 2) * D) ∧ (vs - (rS X 32 1 - rS X 32 3) * D ≤ 2001 * (1048576 * D) ∧ -(2001 * (1048576 * D)) ≤ vs - (rS X 32 1 - rS X 32 3) * D) := by
  by_cases hr : r = 0
  · have h : nearF r n = some ((oneW, 0), (0, 0)) := by unfold nearF; rw [if_pos hr]
    have e1 : nC n r = (oneW, 0) := by unfold nC; rw [h]; rfl
    have e2 : nS n r = (0, 0) := by unfold nS; rw [h]; rfl
    have eX : X = 0 := by rw [hX, hr, Int.mul_zero, Int.zero_ediv]
    have eC : (rS X 32 0 - rS X 32 2) * D = S := by rw [eX, rS_zero_c', hSD]
    have eS : (rS X 32 1 - rS X 32 3) * D = 0 := by rw [eX, rS_zero_s', Int.zero_mul]
    rw [e1, e2, eC, eS]
    exact ⟨S, 0, ok_one hS, ok_zero, by omega, by omega⟩
  · obtain ⟨c, s, vc, vs, h, hc, hs, hv, b1, b2⟩ := near_ok (S := S) hS (show 1 ≤ r by omega) rn (by omega)
    have e1 : nC n r = c := by unfold nC; rw [h]; rfl
    have e2 : nS n r = if r = n then c else s := by unfold nS; rw [h]; rfl
    have hpi : piV = 1043973226625944089706719114415889436 * D + 996 * D := by
      have h1 := iv_q1 hS
      have h2 := iv_q2 hS
      unfold piV
      rw [hSD] at h1 h2
      generalize iv 4605249457297304856 = a at *
      generalize iv 4359948597267291143 = b at *
      clear hSD
      omega
    obtain ⟨k1, k2⟩ := near_doc (X' := X) hSD hD hpi (show 1 ≤ r by omega) rn hv hX
    rw [e1, e2]
    by_cases hrn : r = n
    · rw [if_pos hrn]
      have eX : X = eighth120 := by rw [hX, hrn, Int.mul_ediv_cancel _ (by omega)]
      have hd := doc_eighth
      rw [← eX] at hd
      have e3 : (rS X 32 0 - rS X 32 2) * D = (rS X 32 1 - rS X 32 3) * D + 2 * D := by
        rw [← Int.add_mul]; congr 1; omega
      exact ⟨vc, vc, hc, hc, by omega, by omega⟩
    · rw [if_neg hrn]
      exact ⟨vc, vs, hc, hs, by omega, by omega⟩

theorem cast_bd {v d D : Int} {e : Rat} (hD : 0 < D) (h1 : v - d * D ≤ 2001 * (1048576 * D)) (h2 : -(2001 * (1048576 * D)) ≤ v - d * D)
    (k1 : -2048 ≤ (d : Rat) - 1329227995784915872903807060280344576 * e) (k2 : (d : Rat) - 1329227995784915872903807060280344576 * e ≤ 2048) (S : Int) (hS : S = 1329227995784915872903807060280344576 * D) :
    -(2002 * (S : Rat)) ≤ 1267650600228229401496703205376 * ((v : Rat) - S * e) ∧ 1267650600228229401496703205376 * ((v : Rat) - S * e) ≤ 2002 * (S : Rat) := by
  have eS : (S : Rat) = 1329227995784915872903807060280344576 * (D : Rat) := by rw [hS, Rat.intCast_mul]; rfl
  have q1 : (v : Rat) - (d : Rat) * (D : Rat) ≤ 2001 * (1048576 * (D : Rat)) := by
    have := Rat.intCast_le_intCast.2 h1
    rw [Rat.intCast_sub, Rat.intCast_mul, Rat.intCast_mul, Rat.intCast_mul] at this
    exact this
  have q2 : -(2001 * (1048576 * (D : Rat))) ≤ (v : Rat) - (d : Rat) * (D : Rat) := by
    have := Rat.intCast_le_intCast.2 h2
    rw [Rat.intCast_sub, Rat.intCast_neg, Rat.intCast_mul, Rat.intCast_mul, Rat.intCast_mul] at this
    exact this
  have q0 : (0 : Rat) ≤ (D : Rat) := by
    have := Rat.intCast_le_intCast.2 (show (0 : Int) ≤ D by omega)
    exact this
  rw [eS]
  have m1 := Rat.mul_nonneg q0 (show 0 ≤ 2048 + ((d : Rat) - 1329227995784915872903807060280344576 * e) by grind)
  have m2 := Rat.mul_nonneg q0 (show 0 ≤ 2048 - ((d : Rat) - 1329227995784915872903807060280344576 * e) by grind)
  generalize (v : Rat) = v' at *
  generalize (d : Rat) = d' at *
  generalize (D : Rat) = D' at *
  clear h1 h2 hS eS hD k1 k2
  constructor <;> grind

theorem H_pi : (1329227995784915872903807060280344576 : Rat) * piE = ((1043973226625944089706719114415889436 : Int) : Rat) := by decide +kernel

theorem near_acc {S D r n : Int} (hS : S = ((2 ^ U : Nat) : Int)) (hSD : S = 1329227995784915872903807060280344576 * D) (hD : 0 < D) (r0 : 0 ≤ r) (rn : r ≤ n) (n1 : 1 ≤ n) (n2 : n ≤ 1099511627776) {x : Rat} (hx : (n : Rat) * x = piE * (r : Rat)) :
    (0 ≤ x ∧ x ≤ 4 / 5) ∧
    (∃ v : Int, Ok (nC n r) v ∧ -(2002 * (S : Rat)) ≤ 1267650600228229401496703205376 * ((v : Rat) - S * co x) ∧ 1267650600228229401496703205376 * ((v : Rat) - S * co x) ≤ 2002 * (S : Rat)) ∧
    (∃ v : Int, Ok (nS n r) v ∧ -(2002 * (S : Rat)) ≤ 1267650600228229401496703205376 * ((v : Rat) - S * si x) ∧ 1267650600228229401496703205376 * ((v : Rat) - S * si x) ≤ 2002 * (S : Rat)) := by
  obtain ⟨X, hX⟩ : ∃ X, X = eighth120 * r / n := ⟨_, rfl⟩
  obtain ⟨vc, vs, o1, o2, b1, b2⟩ := near_law' hS hSD hD r0 rn n1 n2 hX
  have ee : eighth120 = 1043973226625944089706719114415889436 := by decide
  rw [ee] at hX
  have hE0 : 0 ≤ 1043973226625944089706719114415889436 * r := Int.mul_nonneg (by decide) r0
  have hE1 : 1043973226625944089706719114415889436 * r ≤ 1043973226625944089706719114415889436 * n := by omega
  have X0 : 0 ≤ X := by rw [hX]; exact Int.ediv_nonneg hE0 (by omega)
  have X1 : X ≤ 1329227995784915872903807060280344576 := by
    rw [hX]
    refine Int.le_trans (Int.ediv_le_ediv (by omega) hE1) ?_
    rw [Int.mul_ediv_cancel _ (by omega)]; decide
  have d1 := Int.mul_ediv_self_le (x := 1043973226625944089706719114415889436 * r) (k := n) (by omega)
  have d2 := Int.lt_mul_ediv_self_add (x := 1043973226625944089706719114415889436 * r) (k := n) (by omega)
  rw [← hX] at d1 d2
  have n0 : (0 : Rat) < (n : Rat) := by
    have : ((1 : Int) : Rat) ≤ (n : Rat) := Rat.intCast_le_intCast.2 n1
    have e : ((1 : Int) : Rat) = 1 := rfl
    grind
  have rr0 : (0 : Rat) ≤ (r : Rat) := Rat.intCast_le_intCast.2 r0
  have rrn : (r : Rat) ≤ (n : Rat) := Rat.intCast_le_intCast.2 rn
  obtain ⟨p0, p1⟩ := piE_bd
  have hHx : 1329227995784915872903807060280344576 * ((n : Rat) * x) = ((1043973226625944089706719114415889436 * r : Int) : Rat) := by
    rw [hx, ← Rat.mul_assoc, H_pi, Rat.intCast_mul]
  have h1 : (X : Rat) ≤ 1329227995784915872903807060280344576 * x := by
    have := Rat.intCast_le_intCast.2 d1
    rw [← hHx, Rat.intCast_mul] at this
    apply Decidable.byContradiction
    intro hc
    have := Rat.mul_pos n0 (show 0 < (X : Rat) - 1329227995784915872903807060280344576 * x by grind)
    grind
  have h2 : 1329227995784915872903807060280344576 * x ≤ (X : Rat) + 1 := by
    have := Rat.intCast_le_intCast.2 (show 1043973226625944089706719114415889436 * r ≤ n * X + n by omega)
    rw [← hHx, Rat.intCast_add, Rat.intCast_mul] at this
    apply Decidable.byContradiction
    intro hc
    have := Rat.mul_pos n0 (show 0 < 1329227995784915872903807060280344576 * x - ((X : Rat) + 1) by grind)
    grind
  have x0 : 0 ≤ x := by
    apply Decidable.byContradiction
    intro hc
    have h3 := Rat.mul_pos n0 (show 0 < -x by grind)
    have h4 := Rat.mul_nonneg p0 rr0
    grind
  have x1 : x ≤ 4 / 5 := by
    apply Decidable.byContradiction
    intro hc
    have h3 := Rat.mul_pos n0 (show 0 < x - 4 / 5 by grind)
    have h4 := Rat.mul_nonneg p0 (show 0 ≤ (n : Rat) - r by grind)
    have h5 := Rat.mul_nonneg (show 0 ≤ 4 / 5 - piE by grind) (Rat.le_of_lt n0)
    grind
  obtain ⟨⟨a1, a2⟩, a3, a4⟩ := doc_exact X0 X1 x0 x1 h1 h2
  exact ⟨⟨x0, x1⟩, ⟨vc, o1, cast_bd hD b1.1 b1.2 a1 a2 S hSD⟩, vs, o2, cast_bd hD b2.1 b2.2 a3 a4 S hSD⟩

/-- The angle of k n-ths of a turn. -/
def ang (k n : Int) : Rat := 8 * piE * ((k % n : Int) : Rat) / (n : Rat)

theorem Acc.of {S v : Int} {a : Nat × Nat} {e e' : Rat} (hS : 0 ≤ (S : Rat)) (ok : Ok a v) (h1 : -(2002 * (S : Rat)) ≤ 1267650600228229401496703205376 * ((v : Rat) - S * e)) (h2 : 1267650600228229401496703205376 * ((v : Rat) - S * e) ≤ 2002 * (S : Rat))
    (g1 : -(128 * eps) ≤ e' - e) (g2 : e' - e ≤ 128 * eps) : Acc S a e' := by
  have he : 1267650600228229401496703205376 * eps = 1 / 1024 := by decide +kernel
  have m1 := Rat.mul_nonneg hS (show 0 ≤ 128 * eps + (e' - e) by grind)
  have m2 := Rat.mul_nonneg hS (show 0 ≤ 128 * eps - (e' - e) by grind)
  have m3 : 1267650600228229401496703205376 * ((S : Rat) * (128 * eps)) = (S : Rat) / 8 := by
    have : 1267650600228229401496703205376 * ((S : Rat) * (128 * eps)) = (S : Rat) * 128 * (1267650600228229401496703205376 * eps) := by grind
    rw [this, he]; grind
  have m1' : 0 ≤ (S : Rat) * (128 * eps) + ((S : Rat) * e' - (S : Rat) * e) := by
    have : (S : Rat) * (128 * eps) + ((S : Rat) * e' - (S : Rat) * e) = (S : Rat) * (128 * eps + (e' - e)) := by grind
    rw [this]; exact m1
  have m2' : 0 ≤ (S : Rat) * (128 * eps) - ((S : Rat) * e' - (S : Rat) * e) := by
    have : (S : Rat) * (128 * eps) - ((S : Rat) * e' - (S : Rat) * e) = (S : Rat) * (128 * eps - (e' - e)) := by grind
    rw [this]; exact m2
  have hv : Ok a v := ok
  clear he g1 g2 m1 m2 ok
  refine ⟨v, hv, ?_, ?_⟩
  · clear hv
    generalize (S : Rat) * (128 * eps) = z at *
    generalize (S : Rat) * e' = y at *
    generalize (S : Rat) * e = w at *
    grind
  · clear hv
    generalize (S : Rat) * (128 * eps) = z at *
    generalize (S : Rat) * e' = y at *
    generalize (S : Rat) * e = w at *
    grind

/-- The octants, exactly. -/
theorem ang_even {k n : Int} {h : Nat} {x : Rat} (n1 : 1 ≤ n) (ho : octO k n = 2 * (h : Int)) (hx : (n : Rat) * x = piE * (octR k n : Rat)) : ang k n = 2 * h * piE + x := by
  have hR : octR k n = if octO k n % 2 = 1 then (octO k n + 1) * n - 8 * (k % n) else 8 * (k % n) - octO k n * n := rfl
  rw [if_neg (by omega), ho] at hR
  have hr : ((octR k n : Int) : Rat) = 8 * ((k % n : Int) : Rat) - 2 * (h : Rat) * (n : Rat) := by
    rw [hR, Rat.intCast_sub, Rat.intCast_mul, Rat.intCast_mul, Rat.intCast_mul]; rfl
  have n0 : (0 : Rat) < (n : Rat) := by
    have : ((1 : Int) : Rat) ≤ (n : Rat) := Rat.intCast_le_intCast.2 n1
    have e : ((1 : Int) : Rat) = 1 := rfl
    grind
  unfold ang
  rw [hr] at hx
  generalize ((k % n : Int) : Rat) = q at *
  generalize (n : Rat) = m at *
  have hm : m ≠ 0 := by grind
  clear hR ho hr n1 n0
  grind
theorem ang_odd {k n : Int} {h : Nat} {x : Rat} (n1 : 1 ≤ n) (ho : octO k n + 1 = 2 * (h : Int)) (hx : (n : Rat) * x = piE * (octR k n : Rat)) : ang k n = 2 * h * piE + -x := by
  have hR : octR k n = if octO k n % 2 = 1 then (octO k n + 1) * n - 8 * (k % n) else 8 * (k % n) - octO k n * n := rfl
  rw [if_pos (by omega), ho] at hR
  have hr : ((octR k n : Int) : Rat) = 2 * (h : Rat) * (n : Rat) - 8 * ((k % n : Int) : Rat) := by
    rw [hR, Rat.intCast_sub, Rat.intCast_mul, Rat.intCast_mul, Rat.intCast_mul]; rfl
  have n0 : (0 : Rat) < (n : Rat) := by
    have : ((1 : Int) : Rat) ≤ (n : Rat) := Rat.intCast_le_intCast.2 n1
    have e : ((1 : Int) : Rat) = 1 := rfl
    grind
  unfold ang
  rw [hr] at hx
  generalize ((k % n : Int) : Rat) = q at *
  generalize (n : Rat) = m at *
  have hm : m ≠ 0 := by grind
  clear hR ho hr n1 n0
  grind

theorem ang_bd (k n : Int) (n1 : 1 ≤ n) : 0 ≤ ang k n ∧ ang k n ≤ 63 / 10 := by
  have n0 : (0 : Rat) < (n : Rat) := by
    have : ((1 : Int) : Rat) ≤ (n : Rat) := Rat.intCast_le_intCast.2 n1
    have e : ((1 : Int) : Rat) = 1 := rfl
    grind
  obtain ⟨p0, p1⟩ := piE_bd
  have q0 : (0 : Rat) ≤ ((k % n : Int) : Rat) := Rat.intCast_le_intCast.2 (Int.emod_nonneg k (by omega))
  have q1 : ((k % n : Int) : Rat) ≤ (n : Rat) := Rat.intCast_le_intCast.2 (Int.le_of_lt (Int.emod_lt_of_pos k (by omega)))
  have e : (n : Rat) * ang k n = 8 * piE * ((k % n : Int) : Rat) := by
    unfold ang
    have hm : (n : Rat) ≠ 0 := by grind
    grind
  generalize ang k n = x at *
  generalize ((k % n : Int) : Rat) = q at *
  generalize (n : Rat) = m at *
  constructor
  · apply Decidable.byContradiction
    intro hc
    have h3 := Rat.mul_pos n0 (show 0 < -x by grind)
    have h4 := Rat.mul_nonneg p0 q0
    grind
  · apply Decidable.byContradiction
    intro hc
    have h3 := Rat.mul_pos n0 (show 0 < x - 63 / 10 by grind)
    have h4 := Rat.mul_nonneg p0 (show 0 ≤ m - q by grind)
    have h5 := Rat.mul_nonneg (show 0 ≤ 7854 / 10000 - piE by grind) (Rat.le_of_lt n0)
    grind

/-- Cosine and sine that the program gives, against the exact ones. -/
theorem ex_acc {S D : Int} (hS : S = ((2 ^ U : Nat) : Int)) (hSD : S = 1329227995784915872903807060280344576 * D) (hD : 0 < D) (k n : Int) (n1 : 1 ≤ n) (n2 : n ≤ 1099511627776) :
    Acc S (exC k n) (co (ang k n)) ∧ Acc S (exS k n) (si (ang k n)) := by
  obtain ⟨r1, r2⟩ := octR_bd k n n1
  obtain ⟨o1, o2, _, _⟩ := octO_spec k n (by omega)
  have n0 : (0 : Rat) < (n : Rat) := by
    have : ((1 : Int) : Rat) ≤ (n : Rat) := Rat.intCast_le_intCast.2 n1
    have e : ((1 : Int) : Rat) = 1 := rfl
    grind
  obtain ⟨x, hx⟩ : ∃ x : Rat, (n : Rat) * x = piE * (octR k n : Rat) := ⟨piE * (octR k n : Rat) / n, by
    have hm : (n : Rat) ≠ 0 := by grind
    grind⟩
  obtain ⟨⟨x0, x1⟩, ⟨vc, oc, c1, c2⟩, vs, os, s1, s2⟩ := near_acc hS hSD hD r1 r2 n1 n2 hx
  have S0 : (0 : Rat) ≤ (S : Rat) := by
    have := Rat.intCast_le_intCast.2 (show (0 : Int) ≤ S by omega)
    exact this
  have hab := ang_bd k n n1
  have kc : ∀ e', -(128 * eps) ≤ e' - co x → e' - co x ≤ 128 * eps → Acc S (nC n (octR k n)) e' := fun e' g1 g2 => Acc.of S0 oc c1 c2 g1 g2
  have ks : ∀ e', -(128 * eps) ≤ e' - si x → e' - si x ≤ 128 * eps → Acc S (nS n (octR k n)) e' := fun e' g1 g2 => Acc.of S0 os s1 s2 g1 g2
  have nc : ∀ e', -(128 * eps) ≤ e' + co x → e' + co x ≤ 128 * eps → Acc S (negP (nC n (octR k n))) e' := fun e' g1 g2 => by
    have := (kc (-e') (by grind) (by grind)).neg
    rwa [show - -e' = e' by grind] at this
  have ns : ∀ e', -(128 * eps) ≤ e' + si x → e' + si x ≤ 128 * eps → Acc S (negP (nS n (octR k n))) e' := fun e' g1 g2 => by
    have := (ks (-e') (by grind) (by grind)).neg
    rwa [show - -e' = e' by grind] at this
  have ev : ∀ h : Nat, octO k n = 2 * (h : Int) → h ≤ 4 → (-(128 * eps) ≤ co (ang k n) - ((sc h).1 * co x - (sc h).2 * si x) ∧ co (ang k n) - ((sc h).1 * co x - (sc h).2 * si x) ≤ 128 * eps) ∧ (-(128 * eps) ≤ si (ang k n) - ((sc h).2 * co x + (sc h).1 * si x) ∧ si (ang k n) - ((sc h).2 * co x + (sc h).1 * si x) ≤ 128 * eps) := by
    intro h ho hh
    have e := ang_even n1 ho hx
    rw [e] at hab ⊢
    exact rot_rest (by grind) x1 h hh hab.2
  have od : ∀ h : Nat, octO k n + 1 = 2 * (h : Int) → h ≤ 4 → (-(128 * eps) ≤ co (ang k n) - ((sc h).1 * co x + (sc h).2 * si x) ∧ co (ang k n) - ((sc h).1 * co x + (sc h).2 * si x) ≤ 128 * eps) ∧ (-(128 * eps) ≤ si (ang k n) - ((sc h).2 * co x - (sc h).1 * si x) ∧ si (ang k n) - ((sc h).2 * co x - (sc h).1 * si x) ≤ 128 * eps) := by
    intro h ho hh
    have e := ang_odd n1 ho hx
    rw [e] at hab ⊢
    have := rot_rest (x := -x) (by grind) (by grind) h hh hab.2
    rw [co_neg, si_neg] at this
    grind
  have w0 : sc 0 = (1, 0) := rfl
  have w1 : sc 1 = (0, 1) := by decide +kernel
  have w2 : sc 2 = (-1, 0) := by decide +kernel
  have w3 : sc 3 = (0, -1) := by decide +kernel
  have w4 : sc 4 = (1, 0) := by decide +kernel
  unfold exC exS
  clear c1 c2 s1 s2 hx hab x0 x1 r1 r2 n0
  generalize co (ang k n) = C at *
  generalize si (ang k n) = Z at *
  generalize co x = y at *
  generalize si x = z at *
  generalize nC n (octR k n) = a at *
  generalize nS n (octR k n) = b at *
  obtain ⟨o, ho⟩ : ∃ o, o = octO k n := ⟨_, rfl⟩
  rw [← ho] at o1 o2 ev od ⊢
  rcases (show o = 0 ∨ o = 1 ∨ o = 2 ∨ o = 3 ∨ o = 4 ∨ o = 5 ∨ o = 6 ∨ o = 7 by omega) with rfl | rfl | rfl | rfl | rfl | rfl | rfl | rfl
  · have h := ev 0 rfl (by omega)
    rw [w0] at h
    exact ⟨(kc _ (by grind) (by grind)).plain, (ks _ (by grind) (by grind)).plain⟩
  · have h := od 1 rfl (by omega)
    rw [w1] at h
    exact ⟨(ks _ (by grind) (by grind)).plain, (kc _ (by grind) (by grind)).plain⟩
  · have h := ev 1 rfl (by omega)
    rw [w1] at h
    exact ⟨(ns _ (by grind) (by grind)).plain, (kc _ (by grind) (by grind)).plain⟩
  · have h := od 2 rfl (by omega)
    rw [w2] at h
    exact ⟨(nc _ (by grind) (by grind)).plain, (ks _ (by grind) (by grind)).plain⟩
  · have h := ev 2 rfl (by omega)
    rw [w2] at h
    exact ⟨(nc _ (by grind) (by grind)).plain, (ns _ (by grind) (by grind)).plain⟩
  · have h := od 3 rfl (by omega)
    rw [w3] at h
    exact ⟨(ns _ (by grind) (by grind)).plain, (nc _ (by grind) (by grind)).plain⟩
  · have h := ev 3 rfl (by omega)
    rw [w3] at h
    exact ⟨(ks _ (by grind) (by grind)).plain, (nc _ (by grind) (by grind)).plain⟩
  · have h := od 4 rfl (by omega)
    rw [w4] at h
    exact ⟨(kc _ (by grind) (by grind)).plain, (ns _ (by grind) (by grind)).plain⟩

/-- The sum of two angles. -/
theorem ang_add (a b n : Int) (n1 : 1 ≤ n) :
    (-(128 * eps) ≤ co (ang a n) * co (ang b n) - si (ang a n) * si (ang b n) - co (ang (a + b) n) ∧ co (ang a n) * co (ang b n) - si (ang a n) * si (ang b n) - co (ang (a + b) n) ≤ 128 * eps) ∧
    (-(128 * eps) ≤ si (ang a n) * co (ang b n) + co (ang a n) * si (ang b n) - si (ang (a + b) n) ∧ si (ang a n) * co (ang b n) + co (ang a n) * si (ang b n) - si (ang (a + b) n) ≤ 128 * eps) := by
  have n0 : (0 : Rat) < (n : Rat) := by
    have : ((1 : Int) : Rat) ≤ (n : Rat) := Rat.intCast_le_intCast.2 n1
    have e : ((1 : Int) : Rat) = 1 := rfl
    grind
  have hm : (n : Rat) ≠ 0 := by grind
  obtain ⟨a0, a1⟩ := ang_bd a n n1
  obtain ⟨b0, b1⟩ := ang_bd b n n1
  obtain ⟨c0, c1⟩ := ang_bd (a + b) n n1
  obtain ⟨e0, e1⟩ := eps_pos
  have h1 := co_add (x := ang a n) (y := ang b n) (by grind) a1 (by grind) b1
  have h2 := si_add (x := ang a n) (y := ang b n) (by grind) a1 (by grind) b1
  have hq : (a + b) % n = a % n + b % n ∨ (a + b) % n + n = a % n + b % n := by
    have p1 := Int.emod_nonneg a (show n ≠ 0 by omega)
    have p2 := Int.emod_lt_of_pos a (show 0 < n by omega)
    have p3 := Int.emod_nonneg b (show n ≠ 0 by omega)
    have p4 := Int.emod_lt_of_pos b (show 0 < n by omega)
    rw [Int.add_emod]
    by_cases hlt : a % n + b % n < n
    · left; exact Int.emod_eq_of_lt (by omega) hlt
    · right
      have : (a % n + b % n) % n = a % n + b % n - n := by
        rw [← Int.sub_emod_right (a % n + b % n) n]
        exact Int.emod_eq_of_lt (by omega) (by omega)
      omega
  rcases hq with hq | hq
  · have e : ang a n + ang b n = ang (a + b) n := by
      unfold ang
      rw [hq, Rat.intCast_add]; grind
    rw [e] at h1 h2
    clear hq e
    refine ⟨⟨?_, ?_⟩, ?_, ?_⟩ <;> grind
  · have e : ang a n + ang b n = 2 * ((4 : Nat) : Rat) * piE + ang (a + b) n := by
      have : ((a % n : Int) : Rat) + ((b % n : Int) : Rat) = (((a + b) % n : Int) : Rat) + (n : Rat) := by
        rw [← Rat.intCast_add, ← Rat.intCast_add, hq]
      have e4 : ((4 : Nat) : Rat) = 4 := rfl
      unfold ang
      rw [e4]
      generalize ((a % n : Int) : Rat) = u at *
      generalize ((b % n : Int) : Rat) = v at *
      generalize (((a + b) % n : Int) : Rat) = w at *
      generalize (n : Rat) = m at *
      clear h1 h2 a0 a1 b0 b1 c0 c1
      grind
    obtain ⟨⟨t1, t2⟩, t3, t4⟩ := quarter_turns 4 (by omega)
    obtain ⟨p0, p1⟩ := piE_bd
    have e4 : ((4 : Nat) : Rat) = 4 := rfl
    have w4 : sc 4 = (1, 0) := by decide +kernel
    have h3 := co_add (x := 2 * ((4 : Nat) : Rat) * piE) (y := ang (a + b) n) (by rw [e4]; grind) (by rw [e4]; grind) (by grind) c1
    have h4 := si_add (x := 2 * ((4 : Nat) : Rat) * piE) (y := ang (a + b) n) (by rw [e4]; grind) (by rw [e4]; grind) (by grind) c1
    have hc := circle (x := ang (a + b) n) (by grind) c1
    rw [w4] at t1 t2 t3 t4
    rw [e] at h1 h2
    generalize co (2 * ((4 : Nat) : Rat) * piE + ang (a + b) n) = C' at *
    generalize si (2 * ((4 : Nat) : Rat) * piE + ang (a + b) n) = S' at *
    generalize co (2 * ((4 : Nat) : Rat) * piE) = u at *
    generalize si (2 * ((4 : Nat) : Rat) * piE) = v at *
    rw [e4] at t1 t2 t3 t4
    have sqb : ∀ t s : Rat, t * t + s * s - 1 ≤ eps → -2 ≤ t ∧ t ≤ 2 := by
      intro t s h
      have hs : 0 ≤ s * s := by
        by_cases h0 : 0 ≤ s
        · exact Rat.mul_nonneg h0 h0
        · have := Rat.mul_nonneg (show 0 ≤ -s by grind) (show 0 ≤ -s by grind)
          grind
      constructor
      · apply Decidable.byContradiction
        intro hc
        have := Rat.mul_pos (show 0 < -2 - t by grind) (show 0 < -2 - t by grind)
        have := Rat.mul_pos (show 0 < -2 - t by grind) (show (0 : Rat) < 2 by grind)
        grind
      · apply Decidable.byContradiction
        intro hc
        have := Rat.mul_pos (show 0 < t - 2 by grind) (show 0 < t - 2 by grind)
        have := Rat.mul_pos (show 0 < t - 2 by grind) (show (0 : Rat) < 2 by grind)
        grind
    have c2 := sqb (co (ang (a + b) n)) (si (ang (a + b) n)) hc.2
    have c3 := sqb (si (ang (a + b) n)) (co (ang (a + b) n)) (by grind)
    have m1 := mbR (A := 20 * eps) (B := 2) (show -(20 * eps) ≤ u - 1 by grind) (by grind) c2.1 c2.2
    have m2 := mbR (A := 20 * eps) (B := 2) (show -(20 * eps) ≤ v - 0 by grind) (by grind) c3.1 c3.2
    have m3 := mbR (A := 20 * eps) (B := 2) (show -(20 * eps) ≤ v - 0 by grind) (by grind) c2.1 c2.2
    have m4 := mbR (A := 20 * eps) (B := 2) (show -(20 * eps) ≤ u - 1 by grind) (by grind) c3.1 c3.2
    clear t1 t2 t3 t4 e4 w4 p0 p1 e hq hm n0 c0 c1 a0 a1 b0 b1 hc c2 c3 sqb e1
    refine ⟨⟨?_, ?_⟩, ?_, ?_⟩ <;> grind

end Go.Proofs.Ytnpkblidlmkagaa

/- The walks of TrigCircle and TrigAdds. -/
set_option linter.unusedSimpArgs false
set_option linter.unusedVariables false
namespace Go.Proofs.Ytnpkblidlmkagaa
open Go.RowKit Fl

/-- A number whose value is q times S. -/
structure Rt (S : Int) (a : Nat × Nat) (q : Rat) : Prop where
  out : ∃ v : Int, Ok a v ∧ (v : Rat) = (S : Rat) * q

/-- 2^-100. -/
def dl : Rat := 1 / 1267650600228229401496703205376
theorem dl_pos : 0 < dl ∧ dl ≤ 1 / 1000000 ∧ eps ≤ dl ∧ 1267650600228229401496703205376 * dl = 1 ∧ 79228162514264337593543950336 * (16 * dl) = 1 := by decide +kernel

theorem S_pos {S : Int} (hS : S = ((2 ^ U : Nat) : Int)) : 0 < S ∧ (0 : Rat) < (S : Rat) := by
  have h : 0 < S := by rw [hS]; have := Nat.two_pow_pos U; omega
  have : ((1 : Int) : Rat) ≤ (S : Rat) := Rat.intCast_le_intCast.2 h
  have e : ((1 : Int) : Rat) = 1 := rfl
  exact ⟨h, by grind⟩

theorem rt_int {S v B : Int} {q : Rat} (hS : (0 : Rat) < (S : Rat)) (hv : (v : Rat) = (S : Rat) * q) (h1 : -(B : Rat) ≤ q) (h2 : q ≤ (B : Rat)) : -(B * S) ≤ v ∧ v ≤ B * S := by
  constructor
  · apply Rat.intCast_le_intCast.1
    rw [hv, Rat.intCast_neg, Rat.intCast_mul]
    have := Rat.mul_nonneg (Rat.le_of_lt hS) (show 0 ≤ q + B by grind)
    grind
  · apply Rat.intCast_le_intCast.1
    rw [hv, Rat.intCast_mul]
    have := Rat.mul_nonneg (Rat.le_of_lt hS) (show 0 ≤ B - q by grind)
    grind

theorem Acc.rt {S : Int} {a : Nat × Nat} {e : Rat} (hS : S = ((2 ^ U : Nat) : Int)) (h : Acc S a e) : ∃ q, Rt S a q ∧ -(2003 * dl) ≤ q - e ∧ q - e ≤ 2003 * dl := by
  obtain ⟨s0, s1⟩ := S_pos hS
  obtain ⟨v, h1, h2, h3⟩ := h.out
  have hm : (S : Rat) ≠ 0 := by grind
  obtain ⟨_, _, _, hd, _⟩ := dl_pos
  refine ⟨(v : Rat) / S, ⟨v, h1, by grind⟩, ?_, ?_⟩
  · obtain ⟨q, hq⟩ : ∃ q, q = (v : Rat) / S := ⟨_, rfl⟩
    have e1 : (v : Rat) = S * q := by rw [hq]; grind
    rw [← hq]
    rw [e1] at h2
    apply Decidable.byContradiction
    intro hc
    have := Rat.mul_pos s1 (show 0 < -(2003 * dl) - (q - e) by grind)
    clear hq e1 h1 h3
    have e2 : (S : Rat) * (1267650600228229401496703205376 * dl) = S := by rw [hd]; grind
    grind
  · obtain ⟨q, hq⟩ : ∃ q, q = (v : Rat) / S := ⟨_, rfl⟩
    have e1 : (v : Rat) = S * q := by rw [hq]; grind
    rw [← hq]
    rw [e1] at h3
    apply Decidable.byContradiction
    intro hc
    have := Rat.mul_pos s1 (show 0 < (q - e) - 2003 * dl by grind)
    clear hq e1 h1 h2
    have e2 : (S : Rat) * (1267650600228229401496703205376 * dl) = S := by rw [hd]; grind
    grind

theorem two_cast (B : Int) (q : Rat) (b : Rat) (hb : (B : Rat) = b) (h1 : -b ≤ q) (h2 : q ≤ b) : -(B : Rat) ≤ q ∧ q ≤ (B : Rat) := by rw [hb]; exact ⟨h1, h2⟩

theorem mul_rt {S : Int} {a b : Nat × Nat} {p q : Rat} (hS : S = ((2 ^ U : Nat) : Int)) (ha : Rt S a p) (hb : Rt S b q) (p1 : -2 ≤ p) (p2 : p ≤ 2) (q1 : -2 ≤ q) (q2 : q ≤ 2) :
    ∃ c r, mulF a b = some c ∧ Rt S c r ∧ -(96 * dl) ≤ r - p * q ∧ r - p * q ≤ 96 * dl := by
  obtain ⟨s0, s1⟩ := S_pos hS
  obtain ⟨u, ou, hu⟩ := ha.out
  obtain ⟨v, ov, hv⟩ := hb.out
  obtain ⟨a1, a2⟩ := rt_int (B := 2) s1 hu p1 p2
  obtain ⟨b1, b2⟩ := rt_int (B := 2) s1 hv q1 q2
  obtain ⟨k1, k2⟩ := S_big hS
  obtain ⟨c, w, h1, ow, w1, w2⟩ := mul_ok (M := 6 * S) (A := 2 * S) (B := 2 * S) hS ou ov a1 a2 b1 b2 (by omega) (by omega) (by omega) (by omega) (by
    have e1 : 2 * S * (2 * S) = 4 * (S * S) := by rw [mul4]; rfl
    have e2 : 6 * S * S = 6 * (S * S) := by rw [Int.mul_assoc]
    have h2 : 0 ≤ S * S := Int.mul_nonneg (by omega) (by omega)
    rw [e1, e2]; omega) (by omega) (by omega)
  obtain ⟨_, _, _, hd, hd2⟩ := dl_pos
  have hm : (S : Rat) ≠ 0 := by grind
  obtain ⟨r, hr⟩ : ∃ r, r = (w : Rat) / S := ⟨_, rfl⟩
  have er : (w : Rat) = S * r := by rw [hr]; grind
  have g1 := Rat.intCast_le_intCast.2 w1
  have g2 := Rat.intCast_le_intCast.2 w2
  rw [Rat.intCast_mul, Rat.intCast_sub, Rat.intCast_mul, Rat.intCast_mul, Rat.intCast_mul, Rat.intCast_mul, er, hu, hv] at g1
  rw [Rat.intCast_mul, Rat.intCast_sub, Rat.intCast_mul, Rat.intCast_mul, Rat.intCast_neg, Rat.intCast_mul, Rat.intCast_mul, er, hu, hv] at g2
  have n1 : ((79228162514264337593543950336 : Int) : Rat) = 79228162514264337593543950336 := rfl
  have n2 : ((6 : Int) : Rat) = 6 := rfl
  rw [n1, n2] at g1 g2
  refine ⟨c, r, h1, ⟨w, ow, er⟩, ?_, ?_⟩
  · apply Decidable.byContradiction
    intro hc
    have := Rat.mul_pos (Rat.mul_pos s1 s1) (show 0 < -(96 * dl) - (r - p * q) by grind)
    have e2 : (S : Rat) * S * (79228162514264337593543950336 * (16 * dl)) = S * S := by rw [hd2]; grind
    clear h1 ow ou ov hr er hu hv hS g1 hd
    grind
  · apply Decidable.byContradiction
    intro hc
    have := Rat.mul_pos (Rat.mul_pos s1 s1) (show 0 < (r - p * q) - 96 * dl by grind)
    have e2 : (S : Rat) * S * (79228162514264337593543950336 * (16 * dl)) = S * S := by rw [hd2]; grind
    clear h1 ow ou ov hr er hu hv hS g2 hd
    grind

theorem add_rt {S : Int} {a b : Nat × Nat} {p q : Rat} (hS : S = ((2 ^ U : Nat) : Int)) (ha : Rt S a p) (hb : Rt S b q) (p1 : -8 ≤ p) (p2 : p ≤ 8) (q1 : -8 ≤ q) (q2 : q ≤ 8) :
    ∃ c r, addF a b = some c ∧ Rt S c r ∧ -(128 * dl) ≤ r - (p + q) ∧ r - (p + q) ≤ 128 * dl := by
  obtain ⟨s0, s1⟩ := S_pos hS
  obtain ⟨u, ou, hu⟩ := ha.out
  obtain ⟨v, ov, hv⟩ := hb.out
  obtain ⟨a1, a2⟩ := rt_int (B := 8) s1 hu p1 p2
  obtain ⟨b1, b2⟩ := rt_int (B := 8) s1 hv q1 q2
  obtain ⟨c, w, h1, ow, w1, w2⟩ := add_ok (M := 8 * S) hS ou ov a1 a2 b1 b2 (by omega)
  obtain ⟨_, _, _, hd, hd2⟩ := dl_pos
  have hm : (S : Rat) ≠ 0 := by grind
  obtain ⟨r, hr⟩ : ∃ r, r = (w : Rat) / S := ⟨_, rfl⟩
  have er : (w : Rat) = S * r := by rw [hr]; grind
  have g1 := Rat.intCast_le_intCast.2 w1
  have g2 := Rat.intCast_le_intCast.2 w2
  rw [Rat.intCast_mul, Rat.intCast_sub, Rat.intCast_add, Rat.intCast_mul, er, hu, hv] at g1
  rw [Rat.intCast_mul, Rat.intCast_sub, Rat.intCast_add, Rat.intCast_neg, Rat.intCast_mul, er, hu, hv] at g2
  have n1 : ((79228162514264337593543950336 : Int) : Rat) = 79228162514264337593543950336 := rfl
  have n2 : ((8 : Int) : Rat) = 8 := rfl
  rw [n1, n2] at g1 g2
  refine ⟨c, r, h1, ⟨w, ow, er⟩, ?_, ?_⟩
  · apply Decidable.byContradiction
    intro hc
    have := Rat.mul_pos s1 (show 0 < -(128 * dl) - (r - (p + q)) by grind)
    have e2 : (S : Rat) * (79228162514264337593543950336 * (16 * dl)) = S := by rw [hd2]; grind
    clear h1 ow ou ov hr er hu hv hS g1 hd
    grind
  · apply Decidable.byContradiction
    intro hc
    have := Rat.mul_pos s1 (show 0 < (r - (p + q)) - 128 * dl by grind)
    have e2 : (S : Rat) * (79228162514264337593543950336 * (16 * dl)) = S := by rw [hd2]; grind
    clear h1 ow ou ov hr er hu hv hS g2 hd
    grind

theorem Rt.neg {S : Int} {a : Nat × Nat} {q : Rat} (h : Rt S a q) : Rt S (negP a) (-q) := by
  obtain ⟨v, h1, h2⟩ := h.out
  exact ⟨-v, h1.neg, by rw [Rat.intCast_neg, h2]; grind⟩

theorem rt_minus_one {S : Int} (hS : S = ((2 ^ U : Nat) : Int)) : Rt S (13830554455654793216, 0) (-1) := by
  have h1 : iv oneW = S := by
    have := (ok_one hS).v
    have z : iv (0 : Nat) = 0 := iv_zero
    have : iv oneW + iv 0 = S := this
    omega
  have e : fneg oneW = 13830554455654793216 := by decide +kernel
  have f1 := fneg_spec fnt_one
  have g1 : Fnt 13830554455654793216 := by rw [← e]; exact f1.1
  have g2 : iv 13830554455654793216 = -S := by
    rw [← e, ← h1]; exact f1.2
  refine ⟨-S, ⟨g1, fnt_zero, ?_, ?_⟩, by rw [Rat.intCast_neg]; grind⟩
  · rw [← g2]; exact (rep_iv g1).rnd_eq
  · show iv 13830554455654793216 + iv 0 = -S
    rw [g2, iv_zero]; omega

set_option maxRecDepth 100000 in
theorem iv_tiny86 {S : Int} (hS : S = ((2 ^ U : Nat) : Int)) : 77371252455336267181195264 * iv 4219872850846154752 = S := by
  obtain ⟨E, hE⟩ : ∃ E : Nat, E = 936 := ⟨_, rfl⟩
  have h : D.read 4219872850846154752 = .number false 4503599627370496 ((E : Int) - 1074) := by rw [hE]; decide +kernel
  have hU : U = 138 + E := by rw [U_eq, hE]
  rw [iv_signed h, signed_eq, hS, hU, Nat.pow_add, Int.natCast_mul, Int.natCast_pow 2 E]
  simp only [Bool.false_eq_true, if_false, Int.one_mul]
  rw [show ((2 ^ 138 : Nat) : Int) = 77371252455336267181195264 * 4503599627370496 from rfl, Int.mul_assoc]
  rfl
set_option maxRecDepth 100000 in
theorem iv_tiny85 {S : Int} (hS : S = ((2 ^ U : Nat) : Int)) : 38685626227668133590597632 * iv 4224376450473525248 = S := by
  obtain ⟨E, hE⟩ : ∃ E : Nat, E = 937 := ⟨_, rfl⟩
  have h : D.read 4224376450473525248 = .number false 4503599627370496 ((E : Int) - 1074) := by rw [hE]; decide +kernel
  have hU : U = 137 + E := by rw [U_eq, hE]
  rw [iv_signed h, signed_eq, hS, hU, Nat.pow_add, Int.natCast_mul, Int.natCast_pow 2 E]
  simp only [Bool.false_eq_true, if_false, Int.one_mul]
  rw [show ((2 ^ 137 : Nat) : Int) = 38685626227668133590597632 * 4503599627370496 from rfl, Int.mul_assoc]
  rfl

/-- A small number's first part is less than a bound. -/
theorem Rt.less {S : Int} {a : Nat × Nat} {q : Rat} (hS : S = ((2 ^ U : Nat) : Int)) (h : Rt S a q) (N : Int) (hN : 1 ≤ N) (hN2 : N ≤ 1000000) (h1 : -((N : Rat) * dl) ≤ q) (h2 : q ≤ (N : Rat) * dl) (c : Nat) (fc : Fnt c) (M : Int) (hc : M * iv c = S) (hM : 0 < M) (hMN : M * (N + 1) ≤ 1267650600228229401496703205376) :
    Fnt a.1 ∧ (FloatKind.f64.format.order (fabs a.1) c == some Ordering.lt) = true := by
  obtain ⟨s0, s1⟩ := S_pos hS
  obtain ⟨v, ok, hv⟩ := h.out
  obtain ⟨_, _, _, hd, _⟩ := dl_pos
  refine ⟨ok.f1, ?_⟩
  have b : -(N * S) ≤ 1267650600228229401496703205376 * v ∧ 1267650600228229401496703205376 * v ≤ N * S := by
    have e2 : (S : Rat) * (N * (1267650600228229401496703205376 * dl)) = S * N := by rw [hd]; grind
    have n1 : ((1267650600228229401496703205376 : Int) : Rat) = 1267650600228229401496703205376 := rfl
    constructor
    · apply Rat.intCast_le_intCast.1
      rw [Rat.intCast_neg, Rat.intCast_mul, Rat.intCast_mul, hv, n1]
      have := Rat.mul_nonneg (Rat.le_of_lt s1) (show 0 ≤ q + N * dl by grind)
      clear hv ok hS hc hMN hd h1 h2
      grind
    · apply Rat.intCast_le_intCast.1
      rw [Rat.intCast_mul, Rat.intCast_mul, hv, n1]
      have := Rat.mul_nonneg (Rat.le_of_lt s1) (show 0 ≤ N * dl - q by grind)
      clear hv ok hS hc hMN hd h1 h2
      grind
  have hr := rnd_rel v
  rw [ok.neat] at hr
  have e53 : (2 : Int) ^ 53 = 9007199254740992 := by decide
  rw [e53] at hr
  have g : ((iv a.1).natAbs : Int) * 1267650600228229401496703205376 < N * S + S := by
    have : 0 < N * S := Int.mul_pos (by omega) s0
    have : N * S ≤ 1000000 * S := Int.mul_le_mul_of_nonneg_right hN2 (by omega)
    generalize N * S = z at *
    clear hc hMN hv h1 h2
    omega
  have hlt : ((iv a.1).natAbs : Int) < iv c := by
    apply Decidable.byContradiction
    intro hn
    have hn : iv c ≤ ((iv a.1).natAbs : Int) := by omega
    have k1 := Int.mul_le_mul_of_nonneg_left hn (show 0 ≤ M by omega)
    rw [hc] at k1
    have k2 := Int.mul_le_mul_of_nonneg_left k1 (show 0 ≤ N + 1 by omega)
    have k3 := Int.mul_le_mul_of_nonneg_right hMN (show 0 ≤ ((iv a.1).natAbs : Int) by omega)
    have e1 : (N + 1) * (M * ((iv a.1).natAbs : Int)) = M * (N + 1) * ((iv a.1).natAbs : Int) := by
      rw [← Int.mul_assoc, Int.mul_comm (N + 1)]
    have e2 : (N + 1) * S = N * S + S := by rw [Int.add_mul, Int.one_mul]
    rw [e1, e2] at k2
    rw [Int.mul_comm] at g
    omega
  show (D.order (fabs a.1) c == some .lt) = true
  rw [order_spec (fabs_fnt ok.f1) fc, iv_fabs ok.f1]
  simp
  exact Int.compare_eq_lt.2 hlt

theorem sq_le {C Z : Rat} (h : C * C + Z * Z - 1 ≤ eps) : -(1001/1000) ≤ C ∧ C ≤ 1001/1000 := by
  obtain ⟨e0, e1⟩ := eps_pos
  have hs : 0 ≤ Z * Z := by
    by_cases h0 : 0 ≤ Z
    · exact Rat.mul_nonneg h0 h0
    · have := Rat.mul_nonneg (show 0 ≤ -Z by grind) (show 0 ≤ -Z by grind)
      grind
  constructor
  · apply Decidable.byContradiction
    intro hc
    have h1 := Rat.mul_pos (show 0 < -(1001/1000) - C by grind) (show 0 < -(1001/1000) - C by grind)
    grind
  · apply Decidable.byContradiction
    intro hc
    have h1 := Rat.mul_pos (show 0 < C - 1001/1000 by grind) (show 0 < C - 1001/1000 by grind)
    grind

theorem near_prod {p q C Z : Rat} (p1 : -(2003 * dl) ≤ p - C) (p2 : p - C ≤ 2003 * dl) (q1 : -(2003 * dl) ≤ q - Z) (q2 : q - Z ≤ 2003 * dl) (c1 : -(1001/1000) ≤ C) (c2 : C ≤ 1001/1000) (z1 : -(1001/1000) ≤ Z) (z2 : Z ≤ 1001/1000) :
    (-2 ≤ p ∧ p ≤ 2) ∧ -(4020 * dl) ≤ p * q - C * Z ∧ p * q - C * Z ≤ 4020 * dl := by
  obtain ⟨d0, d1, _, _, _⟩ := dl_pos
  have m1 := mbR p1 p2 z1 z2
  have m2 := mbR q1 q2 c1 c2
  have m3 := mbR p1 p2 q1 q2
  have m4 := Rat.mul_nonneg (show 0 ≤ 1/1000000 - dl by grind) (Rat.le_of_lt d0)
  refine ⟨⟨by grind, by grind⟩, ?_, ?_⟩
  · clear p1 p2 q1 q2 c1 c2 z1 z2
    grind
  · clear p1 p2 q1 q2 c1 c2 z1 z2
    grind

/-- The unit of the document in those of floats. -/
theorem unit_D' : ∃ (q : Nat) (D S : Int), q = 954 ∧ D = (2 : Int) ^ q ∧ S = ((2 ^ U : Nat) : Int) ∧ S = 1329227995784915872903807060280344576 * D ∧ 0 < D := by
  obtain ⟨q, hq⟩ : ∃ q : Nat, q = 954 := ⟨_, rfl⟩
  have hU := U_eq
  refine ⟨q, _, _, hq, rfl, rfl, ?_, Int.pow_pos (by omega)⟩
  rw [show U = 120 + q by omega, Nat.pow_add, Int.natCast_mul, Int.natCast_pow 2 q]
  rfl

theorem circle_plain (k n : Int) (n1 : 1 ≤ n) (n2 : n ≤ 1099511627776) :
    ∃ p q r d, mulF (exC k n) (exC k n) = some p ∧ mulF (exS k n) (exS k n) = some q ∧ addF p q = some r ∧ addF r (13830554455654793216, 0) = some d ∧ Fnt d.1 ∧ (FloatKind.f64.format.order (fabs d.1) 4219872850846154752 == some Ordering.lt) = true := by
  obtain ⟨q, D, S, hq, hD, hS, hSD, hp⟩ := unit_D'
  obtain ⟨ac, az⟩ := ex_acc hS hSD hp k n n1 n2
  obtain ⟨a0, a1⟩ := ang_bd k n n1
  obtain ⟨h1, h2⟩ := circle (x := ang k n) (by grind) a1
  obtain ⟨c1, c2⟩ := sq_le h2
  obtain ⟨z1, z2⟩ := sq_le (C := si (ang k n)) (Z := co (ang k n)) (by grind)
  obtain ⟨u, ru, u1, u2⟩ := ac.rt hS
  obtain ⟨v, rv, v1, v2⟩ := az.rt hS
  obtain ⟨⟨b1, b2⟩, k1, k2⟩ := near_prod u1 u2 u1 u2 c1 c2 c1 c2
  obtain ⟨⟨b3, b4⟩, k3, k4⟩ := near_prod v1 v2 v1 v2 z1 z2 z1 z2
  obtain ⟨p, x, e1, rp, p1, p2⟩ := mul_rt hS ru ru b1 b2 b1 b2
  obtain ⟨q, y, e2, rq, q1, q2⟩ := mul_rt hS rv rv b3 b4 b3 b4
  obtain ⟨d0, d1, d2, _, _⟩ := dl_pos
  have w1 := mbR c1 c2 c1 c2
  have w2 := mbR z1 z2 z1 z2
  have hx : -2 ≤ x ∧ x ≤ 2 := by
    generalize co (ang k n) * co (ang k n) = t at *
    clear h1 h2 c1 c2 z1 z2 u1 u2 v1 v2
    constructor <;> grind
  have hy : -2 ≤ y ∧ y ≤ 2 := by
    generalize si (ang k n) * si (ang k n) = t at *
    clear h1 h2 c1 c2 z1 z2 u1 u2 v1 v2
    constructor <;> grind
  obtain ⟨r, t, e3, rr, r1, r2⟩ := add_rt hS rp rq (by grind) (by grind) (by grind) (by grind)
  obtain ⟨d, s, e4, rd, s1, s2⟩ := add_rt hS rr (rt_minus_one hS) (by grind) (by grind) (by grind) (by grind)
  have hs : -(8600 * dl) ≤ s ∧ s ≤ 8600 * dl := by
    generalize co (ang k n) * co (ang k n) = t' at *
    generalize si (ang k n) * si (ang k n) = t'' at *
    clear c1 c2 z1 z2 u1 u2 v1 v2 w1 w2 hx hy ac az a0 a1 b1 b2 b3 b4
    constructor <;> grind
  obtain ⟨g1, g2⟩ := rd.less hS 8600 (by omega) (by omega) hs.1 hs.2 4219872850846154752 (by decide +kernel) 77371252455336267181195264 (iv_tiny86 hS) (by omega) (by omega)
  exact ⟨p, q, r, d, e1, e2, e3, e4, g1, g2⟩

theorem adds_plain (a b n : Int) (n1 : 1 ≤ n) (n2 : n ≤ 1099511627776) :
    (∃ p q r t, mulF (exC a n) (exC b n) = some p ∧ mulF (exS a n) (exS b n) = some q ∧ addF p (negP q) = some r ∧ addF r (negP (exC (a + b) n)) = some t ∧ Fnt t.1 ∧ (FloatKind.f64.format.order (fabs t.1) 4224376450473525248 == some Ordering.lt) = true) ∧
    (∃ p q r t, mulF (exS a n) (exC b n) = some p ∧ mulF (exC a n) (exS b n) = some q ∧ addF p q = some r ∧ addF r (negP (exS (a + b) n)) = some t ∧ Fnt t.1 ∧ (FloatKind.f64.format.order (fabs t.1) 4224376450473525248 == some Ordering.lt) = true) := by
  obtain ⟨q, D, S, hq, hD, hS, hSD, hp⟩ := unit_D'
  obtain ⟨ac, az⟩ := ex_acc hS hSD hp a n n1 n2
  obtain ⟨bc, bz⟩ := ex_acc hS hSD hp b n n1 n2
  obtain ⟨cc, cz⟩ := ex_acc hS hSD hp (a + b) n n1 n2
  obtain ⟨a0, a1⟩ := ang_bd a n n1
  obtain ⟨b0, b1⟩ := ang_bd b n n1
  obtain ⟨c0, c1⟩ := ang_bd (a + b) n n1
  have ha := circle (x := ang a n) (by grind) a1
  have hb := circle (x := ang b n) (by grind) b1
  have hc := circle (x := ang (a + b) n) (by grind) c1
  obtain ⟨g1, g2⟩ := ang_add a b n n1
  generalize co (ang a n) = A at *
  generalize si (ang a n) = A' at *
  generalize co (ang b n) = B at *
  generalize si (ang b n) = B' at *
  generalize co (ang (a + b) n) = C at *
  generalize si (ang (a + b) n) = C' at *
  obtain ⟨A1, A2⟩ := sq_le ha.2
  obtain ⟨A3, A4⟩ := sq_le (C := A') (Z := A) (by grind)
  obtain ⟨B1, B2⟩ := sq_le hb.2
  obtain ⟨B3, B4⟩ := sq_le (C := B') (Z := B) (by grind)
  obtain ⟨C1, C2⟩ := sq_le hc.2
  obtain ⟨C3, C4⟩ := sq_le (C := C') (Z := C) (by grind)
  obtain ⟨ua, ra, ua1, ua2⟩ := ac.rt hS
  obtain ⟨va, sa, va1, va2⟩ := az.rt hS
  obtain ⟨ub, rb, ub1, ub2⟩ := bc.rt hS
  obtain ⟨vb, sb, vb1, vb2⟩ := bz.rt hS
  obtain ⟨uc, rc, uc1, uc2⟩ := cc.rt hS
  obtain ⟨vc, scc, vc1, vc2⟩ := cz.rt hS
  obtain ⟨d0, d1, d2, _, _⟩ := dl_pos
  have tiny : 128 * eps ≤ 128 * dl := by grind
  have key : ∀ (x y z : Nat × Nat) (x' y' z' : Nat × Nat) (p q r s f X Y Z W F : Rat) (neg : Bool), Rt S x p → Rt S y q → Rt S x' r → Rt S y' s → Rt S z f →
      -(2003 * dl) ≤ p - X → p - X ≤ 2003 * dl → -(2003 * dl) ≤ q - Y → q - Y ≤ 2003 * dl → -(2003 * dl) ≤ r - Z → r - Z ≤ 2003 * dl → -(2003 * dl) ≤ s - W → s - W ≤ 2003 * dl → -(2003 * dl) ≤ f - F → f - F ≤ 2003 * dl →
      -(1001/1000) ≤ X → X ≤ 1001/1000 → -(1001/1000) ≤ Y → Y ≤ 1001/1000 → -(1001/1000) ≤ Z → Z ≤ 1001/1000 → -(1001/1000) ≤ W → W ≤ 1001/1000 → -(1001/1000) ≤ F → F ≤ 1001/1000 →
      -(128 * eps) ≤ X * Y + (if neg then -(Z * W) else Z * W) - F → X * Y + (if neg then -(Z * W) else Z * W) - F ≤ 128 * eps →
      ∃ m m' k t, mulF x y = some m ∧ mulF x' y' = some m' ∧ addF m (if neg then negP m' else m') = some k ∧ addF k (negP z) = some t ∧ Fnt t.1 ∧ (FloatKind.f64.format.order (fabs t.1) 4224376450473525248 == some Ordering.lt) = true := by
    intro x y z x' y' z' p q r s f X Y Z W F neg rx ry rx' ry' rz p1 p2 q1 q2 r1 r2 s1 s2 f1 f2 X1 X2 Y1 Y2 Z1 Z2 W1 W2 F1 F2 h1 h2
    obtain ⟨⟨i1, i2⟩, k1, k2⟩ := near_prod p1 p2 q1 q2 X1 X2 Y1 Y2
    obtain ⟨⟨i3, i4⟩, _, _⟩ := near_prod q1 q2 p1 p2 Y1 Y2 X1 X2
    obtain ⟨⟨j1, j2⟩, l1, l2⟩ := near_prod r1 r2 s1 s2 Z1 Z2 W1 W2
    obtain ⟨⟨j3, j4⟩, _, _⟩ := near_prod s1 s2 r1 r2 W1 W2 Z1 Z2
    obtain ⟨m, u, e1, rm, m1, m2⟩ := mul_rt hS rx ry i1 i2 i3 i4
    obtain ⟨m', u', e2, rm', m3, m4⟩ := mul_rt hS rx' ry' j1 j2 j3 j4
    have w1 := mbR X1 X2 Y1 Y2
    have w2 := mbR Z1 Z2 W1 W2
    have hu : -2 ≤ u ∧ u ≤ 2 := by
      generalize X * Y = t at *
      clear h1 h2 p1 p2 q1 q2 r1 r2 s1 s2 f1 f2 i1 i2 i3 i4 j1 j2 j3 j4 g1 g2 ha hb hc
      constructor <;> grind
    have hu' : -2 ≤ u' ∧ u' ≤ 2 := by
      generalize Z * W = t at *
      clear h1 h2 p1 p2 q1 q2 r1 r2 s1 s2 f1 f2 i1 i2 i3 i4 j1 j2 j3 j4 g1 g2 ha hb hc
      constructor <;> grind
    have hf : -2 ≤ f ∧ f ≤ 2 := by
      clear h1 h2 p1 p2 q1 q2 r1 r2 s1 s2 i1 i2 i3 i4 j1 j2 j3 j4 g1 g2 ha hb hc k1 k2 l1 l2 w1 w2
      constructor <;> grind
    have rn : Rt S (if neg then negP m' else m') (if neg then -u' else u') := by
      cases neg
      · exact rm'
      · exact rm'.neg
    obtain ⟨k, v, e3, rk, v1, v2⟩ := add_rt hS rm rn (by grind) (by grind) (by cases neg <;> simp <;> grind) (by cases neg <;> simp <;> grind)
    have hv : -5 ≤ v ∧ v ≤ 5 := by
      clear h1 h2 p1 p2 q1 q2 r1 r2 s1 s2 i1 i2 i3 i4 j1 j2 j3 j4 g1 g2 ha hb hc k1 k2 l1 l2 w1 w2 m1 m2 m3 m4 f1 f2
      cases neg <;> simp at v1 v2 <;> constructor <;> grind
    obtain ⟨t, o, e4, rt, o1, o2⟩ := add_rt hS rk rz.neg (by grind) (by grind) (by grind) (by grind)
    have ho : -(12000 * dl) ≤ o ∧ o ≤ 12000 * dl := by
      clear p1 p2 q1 q2 r1 r2 s1 s2 i1 i2 i3 i4 j1 j2 j3 j4 g1 g2 ha hb hc w1 w2 hu hu' hf hv X1 X2 Y1 Y2 Z1 Z2 W1 W2 F1 F2
      generalize X * Y = t1 at *
      generalize Z * W = t2 at *
      generalize p * q = t3 at *
      generalize r * s = t4 at *
      cases neg <;> simp at v1 v2 h1 h2 <;> constructor <;> grind
    obtain ⟨z1, z2⟩ := rt.less hS 12000 (by omega) (by omega) ho.1 ho.2 4224376450473525248 (by decide +kernel) 38685626227668133590597632 (iv_tiny85 hS) (by omega) (by omega)
    exact ⟨m, m', k, t, e1, e2, e3, e4, z1, z2⟩
  constructor
  · exact key _ _ _ _ _ (0, 0) _ _ _ _ _ _ _ _ _ _ true ra rb sa sb rc ua1 ua2 ub1 ub2 va1 va2 vb1 vb2 uc1 uc2 A1 A2 B1 B2 A3 A4 B3 B4 C1 C2 (by simp; grind) (by simp; grind)
  · exact key _ _ _ _ _ (0, 0) _ _ _ _ _ _ _ _ _ _ false sa rb ra sb scc va1 va2 ub1 ub2 ua1 ua2 vb1 vb2 vc1 vc2 A3 A4 B1 B2 A1 A2 B3 B4 C3 C4 (by simp; grind) (by simp; grind)
theorem skX2 {b0 b1 : Nat} {u0 v0 u1 v1 : Value} {D w1 : World} (h0 : Two D b0 u0 v0) (h1 : Two D b1 u1 v1) (hb : Hid (Below D.heap.size D w1)) :
    w1.cell? ⟨b0, 0, none⟩ = some u0 ∧ w1.cell? ⟨b0, 1, none⟩ = some v0 ∧ w1.cell? ⟨b1, 0, none⟩ = some u1 ∧ w1.cell? ⟨b1, 1, none⟩ = some v1 ∧ Hid (Below D.heap.size D w1) := ⟨keep_cell hb.out h0.1, keep_cell hb.out h0.2.1, keep_cell hb.out h1.1, keep_cell hb.out h1.2.1, hb⟩
theorem sBX2 {A0 A1 A2 A3 : Prop} {D W w' : World} (hbb : Below W.heap.size W w') (h : A0 ∧ A1 ∧ A2 ∧ A3 ∧ Hid (Below D.heap.size D W)) : Hid (Below D.heap.size D w') :=
  Lib.hid (h.2.2.2.2.out.trans (hbb.mono h.2.2.2.2.out.size))
theorem skX5 {b0 b1 b2 b3 b4 : Nat} {u0 v0 u1 v1 u2 v2 u3 v3 u4 v4 : Value} {D w1 : World} (h0 : Two D b0 u0 v0) (h1 : Two D b1 u1 v1) (h2 : Two D b2 u2 v2) (h3 : Two D b3 u3 v3) (h4 : Two D b4 u4 v4) (hb : Hid (Below D.heap.size D w1)) :
    w1.cell? ⟨b0, 0, none⟩ = some u0 ∧ w1.cell? ⟨b0, 1, none⟩ = some v0 ∧ w1.cell? ⟨b1, 0, none⟩ = some u1 ∧ w1.cell? ⟨b1, 1, none⟩ = some v1 ∧ w1.cell? ⟨b2, 0, none⟩ = some u2 ∧ w1.cell? ⟨b2, 1, none⟩ = some v2 ∧ w1.cell? ⟨b3, 0, none⟩ = some u3 ∧ w1.cell? ⟨b3, 1, none⟩ = some v3 ∧ w1.cell? ⟨b4, 0, none⟩ = some u4 ∧ w1.cell? ⟨b4, 1, none⟩ = some v4 ∧ Hid (Below D.heap.size D w1) := ⟨keep_cell hb.out h0.1, keep_cell hb.out h0.2.1, keep_cell hb.out h1.1, keep_cell hb.out h1.2.1, keep_cell hb.out h2.1, keep_cell hb.out h2.2.1, keep_cell hb.out h3.1, keep_cell hb.out h3.2.1, keep_cell hb.out h4.1, keep_cell hb.out h4.2.1, hb⟩
theorem sBX5 {A0 A1 A2 A3 A4 A5 A6 A7 A8 A9 : Prop} {D W w' : World} (hbb : Below W.heap.size W w') (h : A0 ∧ A1 ∧ A2 ∧ A3 ∧ A4 ∧ A5 ∧ A6 ∧ A7 ∧ A8 ∧ A9 ∧ Hid (Below D.heap.size D W)) : Hid (Below D.heap.size D w') :=
  Lib.hid (h.2.2.2.2.2.2.2.2.2.2.out.trans (hbb.mono h.2.2.2.2.2.2.2.2.2.2.out.size))

set_option maxRecDepth 100000 in
set_option maxHeartbeats 8000000 in
theorem circle_all (k n : Int) (w : World) (hn : -9223372036854775808 ≤ n) (hn2 : n ≤ 9223372036854775807) :
    Calls Try.prog 12 #[.int .i64 k, .int .i64 n] w fun z w' => z = .returned (.bool true) ∧ Below w.heap.size w w' := by
  have PA := Lib.hid (fun w => parts5_any n 1099511627776 w hn hn2 (by omega) (by omega))
  obtain ⟨m, hm⟩ : ∃ m : Int, m = 1 + (if n < 0 then -(n + 1) else n) % 1099511627776 := ⟨_, rfl⟩
  rw [← hm] at PA
  have m1 : 1 ≤ m := by rw [hm]; split <;> omega
  have m2 : m ≤ 1099511627776 := by rw [hm]; split <;> omega
  clear hm
  have EX := Lib.hid (fun w => exact_fn k m w m1 m2)
  obtain ⟨p, q, r, d, c1, c2, c3, c4, fd, od⟩ := circle_plain k m m1 m2
  generalize exC k m = x at *
  generalize exS k m = y at *
  obtain ⟨x1, x2⟩ := x
  obtain ⟨y1, y2⟩ := y
  obtain ⟨p1, p2⟩ := p
  obtain ⟨q1, q2⟩ := q
  obtain ⟨r1, r2⟩ := r
  obtain ⟨d1, d2⟩ := d
  have M1 : Hid (mulF (x1, x2) (x1, x2) = some (p1, p2)) := Lib.hid c1
  have M2 : Hid (mulF (y1, y2) (y1, y2) = some (q1, q2)) := Lib.hid c2
  have M3 : Hid (addF (p1, p2) (q1, q2) = some (r1, r2)) := Lib.hid c3
  have M4 : Hid (addF (r1, r2) (13830554455654793216, 0) = some (d1, d2)) := Lib.hid c4
  have AB := Lib.hid (fun w => abs_any d1 w fd.1)
  clear c1 c2 c3 c4 hn hn2 m1 m2
  go_enter Try.func12, Try.ntmps12
  go_wp2_with fail
  refine (PA.out _).mono ?_
  rintro z w' ⟨rfl, rfl⟩
  go_wp2_with fail
  refine (EX.out _).mono ?_
  rintro z w1 ⟨rfl, hb1⟩
  have B1 := Lib.hid ((hb1.alloc hb1.size (.cells #[.float .f64 x1, .float .f64 x2] 25)).alloc (hb1.alloc hb1.size (.cells #[.float .f64 x1, .float .f64 x2] 25)).size (.cells #[.float .f64 y1, .float .f64 y2] 25))
  have T1 := Lib.hid ((Two.new w1 (.float .f64 x1) (.float .f64 x2) 25).alloc (.cells #[.float .f64 y1, .float .f64 y2] 25))
  have T2 := Lib.hid (Two.new' (w := w1.alloc (.cells #[.float .f64 x1, .float .f64 x2] 25)) (b := w1.heap.size + 1) (by simp) (.float .f64 y1) (.float .f64 y2) 25)
  clear hb1 PA EX
  go_upto_region 2 with fail
  obtain ⟨D, hD⟩ : ∃ D, D = (w1.alloc (.cells #[.float .f64 x1, .float .f64 x2] 25)).alloc (.cells #[.float .f64 y1, .float .f64 y2] 25) := ⟨_, rfl⟩
  rw [← hD] at B1 T1 T2 ⊢
  clear hD
  have t0 := T1
  have t1 := T2
  have lz := T2.out.lt
  go_cut [7] from 15 to 23 (fun sp wx => ∃ p, sp = .pointer (some ⟨p, 0, none⟩) ∧ Two wx p (.float .f64 d1) (.float .f64 d2) ∧ D.heap.size ≤ p ∧ Below D.heap.size D wx)
  case first =>
    go_region_held3 (fun w' => w'.cell? ⟨w1.heap.size, 0, none⟩ = some (.float .f64 x1) ∧ w'.cell? ⟨w1.heap.size, 1, none⟩ = some (.float .f64 x2) ∧ w'.cell? ⟨w1.heap.size + 1, 0, none⟩ = some (.float .f64 y1) ∧ w'.cell? ⟨w1.heap.size + 1, 1, none⟩ = some (.float .f64 y2) ∧ Hid (Below D.heap.size D w'))
      (first
        | with_reducible exact skX2 t0.out t1.out (hid_drew _)
        | with_reducible exact skX2 t0.out t1.out (hid_refl _)
        | with_reducible exact skX2 t0.out t1.out (by assumption)
        | with_reducible exact skX2 t0.out t1.out (hid_alloc (by assumption))
        | with_reducible exact skX2 t0.out t1.out (hid_alloc (hid_refl _))
        | with_reducible exact skX2 t0.out t1.out (hid_alloc (hid_drew _))
        | with_reducible exact skX2 t0.out t1.out (hid_set (by assumption) (by omega))
        | with_reducible exact skX2 t0.out t1.out (hid_set (hid_alloc (by assumption)) (by omega))
        | fail)
      (first
        | (first | (go_at_call 35; refine (mul_any _ _ _ _ _ _ _ (by first | exact M1.out | exact M2.out)).mono ?_) | (go_at_call 39; refine (add_any _ _ _ _ _ _ _ (by first | exact M3.out | exact M4.out)).mono ?_);
           rintro z w' ⟨rfl, hbb⟩; have hbw := (by with_reducible exact sBX2 hbb (by assumption) : Hid (Below D.heap.size D w')); have hs := hbb.size; have hbs := hbw.out.size;
           try (with_reducible (replace hbb := undrew hbb));
           try (with_reducible (have o4 := Two.over0 o3 hbb));
           try (with_reducible (have o3 := Two.over0 o2 hbb));
           try (with_reducible (have o2 := Two.over0 o1 hbb));
           try (with_reducible (have o1 := Two.over0 k1 hbb));
           try (with_reducible (have k1 := keepA hbb));
           try (have oo := k1; have ol := oo.lt; obtain ⟨r0, r1, f0, f1⟩ := oo);
           try (have oo := o1; have ol := oo.lt; obtain ⟨r0, r1, f0, f1⟩ := oo);
           try (have oo := o2; have ol := oo.lt; obtain ⟨r0, r1, f0, f1⟩ := oo);
           try (have oo := o3; have ol := oo.lt; obtain ⟨r0, r1, f0, f1⟩ := oo);
           try (have oo := o4; have ol := oo.lt; obtain ⟨r0, r1, f0, f1⟩ := oo)))
    all_goals (go_wp2_with fail; go_meet)
    all_goals refine ⟨_, rfl, ?_, ?_, ?_⟩
    all_goals first
      | omega
      | (simp; done)
      | (simp; omega)
      | with_reducible exact Two.new _ _ _ _
      | with_reducible exact Two.new' (by simp) _ _ _
      | with_reducible exact Two.setBoth (by assumption) _ _
      | with_reducible exact (hid_alloc (by assumption)).out
      | with_reducible exact (hid_set (by assumption) (by omega)).out
      | fail
  case rest =>
    obtain ⟨p, rfl, hp, hpD, hbw⟩ := hcut
    have B2 := Lib.hid (B1.out.trans (hbw.mono B1.out.size))
    have HP := Lib.hid hp
    clear hp hbw t0 t1 T1 T2 B1
    go_wp2_with fail
    refine (wakes5_any _).mono ?_
    rintro z w3 ⟨rfl, hb⟩
    obtain ⟨r0, r1, f0, f1⟩ := HP.out.keep hb
    go_wp2_with fail
    refine (AB.out _).mono ?_
    rintro z w' ⟨rfl, rfl⟩
    go_wp2_with fail
    go_ret
    exact ⟨rfl, B2.out.trans (hb.mono B2.out.size)⟩


end Go.Proofs.Ytnpkblidlmkagaa
