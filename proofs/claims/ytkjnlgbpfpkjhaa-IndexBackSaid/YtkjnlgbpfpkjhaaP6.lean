/- Plain laws: numbers turned about twice; rectangles turned twice. -/
import Derived.Test.YtkjnlgbpfpkjhaaP2
import Derived.Test.YtkjnlgbpfpkjhaaP4
set_option linter.unusedSimpArgs false
set_option linter.unusedVariables false
namespace Go.Proofs.Ytkjnlgbpfpkjhaa

theorem wt_congr {f f' : Nat → Int} : ∀ {k : Nat}, (∀ i, i < k → f i = f' i) → wt f k = wt f' k
  | 0, _ => rfl
  | k + 1, h => by
    show wt f k * f k = wt f' k * f' k
    rw [wt_congr (fun i hi => h i (by omega)), h k (by omega)]

theorem num_congr {f f' d d' : Nat → Int} : ∀ {k : Nat}, (∀ i, i < k → f i = f' i) → (∀ i, i < k → d i = d' i) → num f d k = num f' d' k
  | 0, _, _ => rfl
  | k + 1, h, h' => by
    show num f d k + wt f k * d k = num f' d' k + wt f' k * d' k
    rw [num_congr (fun i hi => h i (by omega)) (fun i hi => h' i (by omega)), wt_congr (fun i hi => h i (by omega)), h' k (by omega)]

theorem num_left {f : Nat → Int} {n : Nat} (hf : ∀ i, i < n → 2 ≤ f i) (x : Int) : ∀ k, k ≤ n → num f (dig f x) k + wt f k * left f x k = x
  | 0, _ => by show 0 + 1 * x = x; omega
  | k + 1, hk => by
    have ih := num_left hf x k (by omega)
    have h := Int.mul_ediv_add_emod (left f x k) (f k)
    show num f (dig f x) k + wt f k * (left f x k % f k) + wt f k * f k * (left f x k / f k) = x
    rw [Int.mul_assoc, Int.add_assoc, ← Int.mul_add]
    have e : left f x k % f k + f k * (left f x k / f k) = left f x k := by omega
    rw [e]
    exact ih

/-- A number out of its digits. -/
theorem num_dig {f : Nat → Int} {n : Nat} {p x : Int} (h : prodTo f n = some p) (h0 : 0 ≤ x) (hx : x < p) : num f (dig f x) n = x := by
  obtain ⟨h1, _, _, h4, _⟩ := prodTo_wt h
  have a := num_left h4 x n (Nat.le_refl _)
  have b : 0 ≤ num f (dig f x) n ∧ num f (dig f x) n < wt f n := num_bd h n (Nat.le_refl _) (fun i hi => dig_bd (x := x) h4 hi)
  have c := (left_bd h4 h0 n (Nat.le_refl _)).1
  have d : left f x n = 0 := by
    by_cases e : left f x n = 0
    · exact e
    · have := Int.mul_le_mul_of_nonneg_left (show 1 ≤ left f x n by omega) (show 0 ≤ wt f n by omega)
      omega
  rw [d, Int.mul_zero] at a
  omega

/-- Digits are told by their number. -/
theorem num_inj {f d d' : Nat → Int} {n : Nat} {p : Int} (h : prodTo f n = some p) : ∀ k, k ≤ n → (∀ i, i < k → 0 ≤ d i ∧ d i < f i) → (∀ i, i < k → 0 ≤ d' i ∧ d' i < f i) → num f d k = num f d' k → ∀ i, i < k → d i = d' i
  | 0, _, _, _, _ => fun i hi => by omega
  | k + 1, hk, hd, hd', e => by
    have a := num_bd h k (by omega) (fun i hi => hd i (by omega))
    have b := num_bd h k (by omega) (fun i hi => hd' i (by omega))
    have e' : num f d k + wt f k * d k = num f d' k + wt f k * d' k := e
    have hk2 : d k = d' k := by
      rcases Int.lt_trichotomy (d k) (d' k) with c | c | c
      · have := Int.mul_le_mul_of_nonneg_left (show d k + 1 ≤ d' k by omega) (show 0 ≤ wt f k by omega)
        rw [Int.mul_add, Int.mul_one] at this
        omega
      · exact c
      · have := Int.mul_le_mul_of_nonneg_left (show d' k + 1 ≤ d k by omega) (show 0 ≤ wt f k by omega)
        rw [Int.mul_add, Int.mul_one] at this
        omega
    rw [hk2] at e'
    have ih := num_inj h k (by omega) (fun i hi => hd i (by omega)) (fun i hi => hd' i (by omega)) (by omega)
    intro i hi
    by_cases ei : i = k
    · subst ei; exact hk2
    · exact ih i (by omega)

theorem rev_rev (f : Nat → Int) (n : Nat) : ∀ i, i < n → rev (rev f n) n i = f i := fun i hi => by unfold rev; congr 1; omega

/-- Turned about twice. -/
theorem revF_revF {f : Nat → Int} {n : Nat} {p x : Int} (h : prodTo f n = some p) (h0 : 0 ≤ x) (hx : x < p) : revF (rev f n) n (revF f n x) = x := by
  obtain ⟨_, _, _, h4, _⟩ := prodTo_wt h
  have hr := prodTo_rev h
  obtain ⟨_, _, _, r4, _⟩ := prodTo_wt hr
  have fit : ∀ i, i < n → 0 ≤ dig f x i ∧ dig f x i < f i := fun i hi => dig_bd h4 hi
  have hb := revF_bd h h0
  have hd : ∀ i, i < n → dig (rev f n) (revF f n x) i = rev (dig f x) n i := num_inj hr n (Nat.le_refl _) (fun i hi => dig_bd r4 hi) (fit_rev fit) (num_dig hr hb.1 hb.2)
  have e : revF (rev f n) n (revF f n x) = num f (dig f x) n := by
    show num (rev (rev f n) n) (rev (dig (rev f n) (revF f n x)) n) n = _
    refine num_congr (rev_rev f n) (fun i hi => ?_)
    rw [← rev_rev (dig f x) n i hi]
    show dig (rev f n) (revF f n x) (n - 1 - i) = rev (dig f x) n (n - 1 - i)
    exact hd _ (by omega)
  rw [e, num_dig h h0 hx]

theorem turnT_turnT (f : Nat → Int) {R C i : Nat} (h : i < R * C) : turnT (turnT f R C) C R i = f i := by
  unfold turnT
  have e : tq C R i = (tp R C i).toNat := by
    rw [tp_nat, Int.toNat_natCast]; rfl
  rw [e, tq_tp h]

end Go.Proofs.Ytkjnlgbpfpkjhaa
