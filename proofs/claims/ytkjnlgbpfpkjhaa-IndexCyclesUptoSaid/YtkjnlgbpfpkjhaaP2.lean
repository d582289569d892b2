/- Plain laws on radices the other way round. -/
import Derived.Test.YtkjnlgbpfpkjhaaP1
set_option linter.unusedSimpArgs false
set_option linter.unusedVariables false
namespace Go.Proofs.Ytkjnlgbpfpkjhaa

/-- The other way round. -/
def rev (f : Nat → Int) (n : Nat) : Nat → Int := fun i => f (n - 1 - i)

theorem wt_rev (f : Nat → Int) (n : Nat) : ∀ j, j ≤ n → wt f n = wt f (n - j) * wt (rev f n) j
  | 0, _ => by show wt f n = wt f n * 1; omega
  | j + 1, hj => by
    rw [wt_rev f n j (by omega), show n - j = (n - (j + 1)) + 1 from by omega]
    have e : n - 1 - j = n - (j + 1) := by omega
    simp only [wt, rev, e]
    rw [Int.mul_assoc, Int.mul_comm (f (n - (j + 1)))]

theorem wt_rev_all (f : Nat → Int) (n : Nat) : wt (rev f n) n = wt f n := by
  have := wt_rev f n n (Nat.le_refl _)
  simp only [Nat.sub_self, wt] at this
  omega

theorem wt_pos {f : Nat → Int} {n : Nat} (hf : ∀ i, i < n → 2 ≤ f i) : ∀ k, k ≤ n → 1 ≤ wt f k
  | 0, _ => Int.le_refl _
  | k + 1, hk => by
    have a := wt_pos hf k (by omega)
    have b := hf k (by omega)
    have : wt f k * 1 ≤ wt f k * f k := Int.mul_le_mul_of_nonneg_left (by omega) (by omega)
    show 1 ≤ wt f k * f k
    omega

theorem prodTo_of {f : Nat → Int} {n : Nat} (hf : ∀ i, i < n → 2 ≤ f i) (h : wt f n ≤ 1048576) : prodTo f n = some (wt f n) := by
  have mono : ∀ d k, k + d = n → wt f k ≤ wt f n := by
    intro d
    induction d with
    | zero => intro k hk; obtain rfl : k = n := (by omega); exact Int.le_refl _
    | succ d ih =>
      intro k hk
      have a := ih (k + 1) (by omega)
      have b := wt_pos hf k (by omega)
      have c := hf k (by omega)
      have : wt f k * 1 ≤ wt f k * f k := Int.mul_le_mul_of_nonneg_left (by omega) (by omega)
      have e : wt f (k + 1) = wt f k * f k := rfl
      omega
  have go : ∀ k, k ≤ n → prodTo f k = some (wt f k) := by
    intro k
    induction k with
    | zero => intro _; rfl
    | succ k ih =>
      intro hk
      exact prodTo_step (ih (by omega)) (hf k (by omega)) (by have := mono (n - (k + 1)) (k + 1) (by omega); exact Int.le_trans this h)
  exact go n (Nat.le_refl _)

theorem prodTo_rev {f : Nat → Int} {n : Nat} {p : Int} (h : prodTo f n = some p) : prodTo (rev f n) n = some p := by
  obtain ⟨h1, h2, h3, h4, _⟩ := prodTo_wt h
  rw [prodTo_of (f := rev f n) (fun i hi => h4 (n - 1 - i) (by omega)) (by rw [wt_rev_all]; omega), wt_rev_all, h1]

/-- Where a number goes whose digits are turned about. -/
def revF (f : Nat → Int) (n : Nat) (x : Int) : Int := num (rev f n) (rev (dig f x) n) n

theorem fit_rev {f d : Nat → Int} {n : Nat} (h : ∀ i, i < n → 0 ≤ d i ∧ d i < f i) : ∀ i, i < n → 0 ≤ rev d n i ∧ rev d n i < rev f n i := fun i hi => h (n - 1 - i) (by omega)

theorem revF_bd {f : Nat → Int} {n : Nat} {p x : Int} (h : prodTo f n = some p) (hx : 0 ≤ x) : 0 ≤ revF f n x ∧ revF f n x < p := by
  obtain ⟨h1, _, _, h4, _⟩ := prodTo_wt h
  have := num_bd (prodTo_rev h) n (Nat.le_refl _) (fit_rev (fun i hi => dig_bd (x := x) h4 hi))
  rw [wt_rev_all, ← h1] at this
  exact this

end Go.Proofs.Ytkjnlgbpfpkjhaa
