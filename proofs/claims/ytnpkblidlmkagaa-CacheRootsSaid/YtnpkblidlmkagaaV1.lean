/- The contracts of the octants: the program's and the document's; parts. -/
import Derived.Test.YtnpkblidlmkagaaW10
import Derived.Deep.CutRange
set_option linter.unusedSimpArgs false
set_option linter.unusedVariables false
namespace Go.Proofs.Ytnpkblidlmkagaa
open Go.RowKit Fl

/-- The octant and the rest. -/
def octO (k n : Int) : Int := 8 * (k % n) / n
def octR (k n : Int) : Int := if octO k n % 2 = 1 then (octO k n + 1) * n - 8 * (k % n) else 8 * (k % n) - octO k n * n

theorem rem_fix (k n : Int) (hn : 0 < n) : (k.tmod n < 0 → k.tmod n + n = k % n) ∧ (0 ≤ k.tmod n → k.tmod n = k % n) := by
  have h := Int.tmod_eq_emod (a := k) (b := n)
  have h1 := Int.emod_nonneg k (show n ≠ 0 by omega)
  have h2 := Int.emod_lt_of_pos k hn
  have h3 : (n.natAbs : Int) = n := by omega
  by_cases hc : 0 ≤ k ∨ n ∣ k
  · rw [if_pos hc] at h
    omega
  · rw [if_neg hc, h3] at h
    omega

theorem octO_spec (k n : Int) (hn : 0 < n) : 0 ≤ octO k n ∧ octO k n ≤ 7 ∧ octO k n * n ≤ 8 * (k % n) ∧ 8 * (k % n) < octO k n * n + n := by
  have h1 := Int.emod_nonneg k (show n ≠ 0 by omega)
  have h2 := Int.emod_lt_of_pos k hn
  have h3 := Int.ediv_mul_le (8 * (k % n)) (show n ≠ 0 by omega)
  have h4 := Int.lt_ediv_add_one_mul_self (8 * (k % n)) hn
  have h5 : 0 ≤ 8 * (k % n) / n := Int.ediv_nonneg (by omega) (by omega)
  have h6 : 8 * (k % n) / n < 8 := Int.ediv_lt_of_lt_mul hn (by omega)
  unfold octO
  rw [Int.add_mul, Int.one_mul] at h4
  exact ⟨h5, by omega, h3, h4⟩

theorem wrapIn {x : Int} (h1 : -9223372036854775808 ≤ x) (h2 : x ≤ 9223372036854775807) : wrap64 x = x := by
  unfold wrap64; omega

/-- The steps of the octant, all within range. -/
theorem oct_steps (k n : Int) (h1 : 1 ≤ n) (h2 : n ≤ 1099511627776) :
    wrap64 (8 * (k % n)) = 8 * (k % n) ∧ (8 * (k % n)).tdiv n = octO k n ∧ wrap64 (octO k n) = octO k n ∧ (octO k n).tmod 2 = octO k n % 2 ∧ wrap64 (octO k n + 1) = octO k n + 1 ∧
    wrap64 (octO k n * n) = octO k n * n ∧ wrap64 ((octO k n + 1) * n) = (octO k n + 1) * n ∧ wrap64 (8 * (k % n) - octO k n * n) = 8 * (k % n) - octO k n * n ∧
    wrap64 ((octO k n + 1) * n - 8 * (k % n)) = (octO k n + 1) * n - 8 * (k % n) := by
  obtain ⟨s1, s2, s3, s4⟩ := octO_spec k n (by omega)
  have q1 := Int.emod_nonneg k (show n ≠ 0 by omega)
  have q2 := Int.emod_lt_of_pos k (show 0 < n by omega)
  have e : (octO k n + 1) * n = octO k n * n + n := by rw [Int.add_mul, Int.one_mul]
  have e0 : 0 ≤ octO k n * n := Int.mul_nonneg s1 (by omega)
  rw [e]
  refine ⟨wrapIn (by omega) (by omega), ?_, wrapIn (by omega) (by omega), Int.tmod_eq_emod_of_nonneg s1, wrapIn (by omega) (by omega), wrapIn (by omega) (by omega), wrapIn (by omega) (by omega), wrapIn (by omega) (by omega), wrapIn (by omega) (by omega)⟩
  rw [Int.tdiv_eq_ediv_of_nonneg (by omega)]; rfl

set_option maxRecDepth 100000 in
theorem octant_bad (k n : Int) (w : World) (h : n < 1 ∨ 1099511627776 < n) :
    Calls Try.prog 43 #[.int .i64 k, .int .i64 n] w fun z w' => z = .returned (.tuple #[.int .i64 (-1), .int .i64 0]) ∧ w = w' := by
  go_enter Try.func43, Try.ntmps43
  by_cases h1 : n < 1
  · go_wp2
    go_ret2
    exact ⟨rfl, rfl⟩
  · have h2 : 1099511627776 < n := by omega
    go_wp2
    go_ret2
    exact ⟨rfl, rfl⟩

set_option maxRecDepth 100000 in
theorem octant_any (k n : Int) (w : World) (h1 : 1 ≤ n) (h2 : n ≤ 1099511627776) :
    Calls Try.prog 43 #[.int .i64 k, .int .i64 n] w fun z w' => z = .returned (.tuple #[.int .i64 (octO k n), .int .i64 (octR k n)]) ∧ w = w' := by
  obtain ⟨r1, r2⟩ := rem_fix k n (by omega)
  have hw : wrap64 (k % n) = k % n := wrapIn (by have := Int.emod_nonneg k (show n ≠ 0 by omega); omega) (by have := Int.emod_lt_of_pos k (show 0 < n by omega); omega)
  obtain ⟨e1, e2, e3, e4, e5, e6, e7, e8, e9⟩ := oct_steps k n h1 h2
  go_enter Try.func43, Try.ntmps43
  by_cases hneg : k.tmod n < 0
  · have e0 := r1 hneg
    clear r1 r2
    by_cases ho : octO k n % 2 = 1
    · go_wp2_with (first | simp only [e0, hw, e1, e2, e3, e4, e5, e6, e7, e8, e9, ho] | fail)
      go_ret2
      exact ⟨by unfold octR; rw [if_pos ho]; rfl, rfl⟩
    · have ho2 : octO k n % 2 = 0 := by omega
      go_wp2_with (first | simp only [e0, hw, e1, e2, e3, e4, e5, e6, e7, e8, e9, ho2] | fail)
      go_ret2
      exact ⟨by unfold octR; rw [if_neg ho]; rfl, rfl⟩
  · have e0 := r2 (by omega)
    clear r1 r2
    by_cases ho : octO k n % 2 = 1
    · go_wp2_with (first | simp only [e0, hw, e1, e2, e3, e4, e5, e6, e7, e8, e9, ho] | fail)
      go_ret2
      exact ⟨by unfold octR; rw [if_pos ho]; rfl, rfl⟩
    · have ho2 : octO k n % 2 = 0 := by omega
      go_wp2_with (first | simp only [e0, hw, e1, e2, e3, e4, e5, e6, e7, e8, e9, ho2] | fail)
      go_ret2
      exact ⟨by unfold octR; rw [if_neg ho]; rfl, rfl⟩

set_option maxRecDepth 100000 in
theorem refOctant_bad (k n : Int) (w : World) (h : n < 1 ∨ 1099511627776 < n) :
    Calls Try.prog 44 #[.int .i64 k, .int .i64 n] w fun z w' => z = .returned (.tuple #[.int .i64 (-1), .int .i64 0]) ∧ w = w' := by
  go_enter Try.func44, Try.ntmps44
  by_cases h1 : n < 1
  · go_wp2
    go_ret2
    exact ⟨rfl, rfl⟩
  · have h2 : 1099511627776 < n := by omega
    go_wp2
    go_ret2
    exact ⟨rfl, rfl⟩

/-- The rounds of the document's octant. -/
theorem oct_round (k n : Int) (h1 : 1 ≤ n) (h2 : n ≤ 1099511627776) (j : Int) (hj : 0 ≤ j) (hj7 : j ≤ octO k n) :
    wrap64 (j + 1) = j + 1 ∧ wrap64 ((j + 1) * n) = (j + 1) * n ∧ ((j + 1) * n ≤ 8 * (k % n) ↔ j < octO k n) := by
  obtain ⟨s1, s2, s3, s4⟩ := octO_spec k n (by omega)
  have hm : (j + 1) * n ≤ 8 * n := Int.mul_le_mul_of_nonneg_right (by omega) (by omega)
  have hp : 0 ≤ (j + 1) * n := Int.mul_nonneg (by omega) (by omega)
  refine ⟨wrapIn (by omega) (by omega), wrapIn (by omega) (by omega), ?_, ?_⟩
  · intro h
    apply Decidable.byContradiction
    intro hc
    have he : j = octO k n := by omega
    rw [he, Int.add_mul, Int.one_mul] at h
    omega
  · intro h
    have : (j + 1) * n ≤ octO k n * n := Int.mul_le_mul_of_nonneg_right (by omega) (by omega)
    omega

set_option maxRecDepth 100000 in
theorem refOctant_any (k n : Int) (w : World) (h1 : 1 ≤ n) (h2 : n ≤ 1099511627776) :
    Calls Try.prog 44 #[.int .i64 k, .int .i64 n] w fun z w' => z = .returned (.tuple #[.int .i64 (octO k n), .int .i64 (octR k n)]) ∧ w = w' := by
  obtain ⟨r1, r2⟩ := rem_fix k n (by omega)
  have hw : wrap64 (k % n) = k % n := wrapIn (by have := Int.emod_nonneg k (show n ≠ 0 by omega); omega) (by have := Int.emod_lt_of_pos k (show 0 < n by omega); omega)
  obtain ⟨e1, e2, e3, e4, e5, e6, e7, e8, e9⟩ := oct_steps k n h1 h2
  have hround := Lib.hid (oct_round k n h1 h2)
  obtain ⟨s1, s2, s3, s4⟩ := octO_spec k n (by omega)
  clear s3 s4
  go_enter Try.func44, Try.ntmps44
  have hq : (k.tmod n < 0 ∧ k.tmod n + n = k % n) ∨ (0 ≤ k.tmod n ∧ k.tmod n = k % n) := by
    by_cases h : k.tmod n < 0
    · exact .inl ⟨h, r1 h⟩
    · exact .inr ⟨by omega, r2 (by omega)⟩
  clear r1 r2
  rcases hq with ⟨hneg, e0⟩ | ⟨hneg, e0⟩
  all_goals
    go_wp2_with (first | simp only [e0, hw] | fail)
    go_loopw [7] (fun i wr => ∃ j : Int, 0 ≤ j ∧ j ≤ octO k n ∧ i = .int .i64 j ∧ wr = w) (fun i _ => (octO k n - intOf i).toNat)
    case atStart => exact ⟨0, by omega, s1, rfl, rfl⟩
    case round =>
      obtain ⟨j, j0, j1, rfl, rfl⟩ := hrel
      obtain ⟨b1, b2, b3⟩ := hround.out j j0 j1
      by_cases hlt : j < octO k n
      · have hle := b3.2 hlt
        go_wp2_with (first | simp only [b1, b2, e1] | fail)
        exact ⟨⟨j + 1, by omega, by omega, rfl, trivial⟩, by simp [intOf]; omega⟩
      · have hle : ¬ (j + 1) * n ≤ 8 * (k % n) := fun h => hlt (b3.1 h)
        obtain rfl : j = octO k n := by omega
        by_cases ho : octO k n % 2 = 1
        · have ho2 : ¬ octO k n % 2 = 0 := by omega
          go_wp2_with (first | simp only [b1, b2, e1, e2, e3, e4, e5, e6, e7, e8, e9, ho] | fail)
          go_ret2
          exact ⟨by unfold octR; rw [if_pos ho]; rfl, rfl⟩
        · have ho2 : octO k n % 2 = 0 := by omega
          go_wp2_with (first | simp only [b1, b2, e1, e2, e3, e4, e5, e6, e7, e8, e9, ho2] | fail)
          go_ret2
          exact ⟨by unfold octR; rw [if_neg ho]; rfl, rfl⟩

set_option maxRecDepth 100000 in
theorem parts5_any (n m : Int) (w : World) (hn : -9223372036854775808 ≤ n) (hn2 : n ≤ 9223372036854775807) (hm : 1 ≤ m) (hm2 : m ≤ 1099511627776) :
    Calls Try.prog 42 #[.int .i64 n, .int .i64 m] w fun z w' => z = .returned (.int .i64 (1 + (if n < 0 then -(n + 1) else n) % m)) ∧ w = w' := by
  go_enter Try.func42, Try.ntmps42
  by_cases h : n < 0
  · have e1 : wrap64 (n + 1) = n + 1 := wrapIn (by omega) (by omega)
    have e2 : wrap64 (-(n + 1)) = -(n + 1) := wrapIn (by omega) (by omega)
    have e3 : (-(n + 1)).tmod m = -(n + 1) % m := Int.tmod_eq_emod_of_nonneg (by omega)
    have q1 := Int.emod_nonneg (-(n + 1)) (show m ≠ 0 by omega)
    have q2 := Int.emod_lt_of_pos (-(n + 1)) (show 0 < m by omega)
    have e4 : wrap64 (1 + -(n + 1) % m) = 1 + -(n + 1) % m := wrapIn (by omega) (by omega)
    rw [if_pos h]
    go_wp2_with (first | simp only [e1, e2, e3, e4] | fail)
    go_ret
    exact ⟨rfl, rfl⟩
  · have e3 : n.tmod m = n % m := Int.tmod_eq_emod_of_nonneg (by omega)
    have q1 := Int.emod_nonneg n (show m ≠ 0 by omega)
    have q2 := Int.emod_lt_of_pos n (show 0 < m by omega)
    have e4 : wrap64 (1 + n % m) = 1 + n % m := wrapIn (by omega) (by omega)
    rw [if_neg h]
    go_wp2_with (first | simp only [e3, e4] | fail)
    go_ret
    exact ⟨rfl, rfl⟩
end Go.Proofs.Ytnpkblidlmkagaa
