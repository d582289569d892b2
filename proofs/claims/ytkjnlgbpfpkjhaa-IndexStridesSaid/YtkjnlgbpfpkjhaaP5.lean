/- How many places of a stride there are. -/
import Derived.Test.YtkjnlgbpfpkjhaaB20
set_option linter.unusedSimpArgs false
set_option linter.unusedVariables false
namespace Go.Proofs.Ytkjnlgbpfpkjhaa

/-- How many places below k are places of the stride. -/
def cntH (off st : Int) (m : Nat) : Nat → Nat
  | 0 => 0
  | k + 1 => cntH off st m k + if hit off st m k then 1 else 0

theorem hit_zero (off st : Int) (h3 : 1 ≤ st) (y : Nat) : ¬ hit off st 0 y := by
  rintro ⟨a, b, c⟩
  have := Int.ediv_nonneg (show 0 ≤ (y : Int) - off by omega) (show 0 ≤ st by omega)
  omega

theorem cntH_zero (off st : Int) (h3 : 1 ≤ st) : ∀ k, cntH off st 0 k = 0
  | 0 => rfl
  | k + 1 => by
    show cntH off st 0 k + (if hit off st 0 k then 1 else 0) = 0
    rw [cntH_zero off st h3 k, if_neg (hit_zero off st h3 k)]

theorem cntH_succ {off st : Int} {m y0 : Nat} (h3 : 1 ≤ st) (hy : (y0 : Int) = off + (m : Int) * st) : ∀ k, cntH off st (m + 1) k = cntH off st m k + if y0 < k then 1 else 0
  | 0 => by simp [cntH]
  | k + 1 => by
    show cntH off st (m + 1) k + (if hit off st (m + 1) k then 1 else 0) = cntH off st m k + (if hit off st m k then 1 else 0) + _
    rw [cntH_succ h3 hy k]
    by_cases e : k = y0
    · subst e
      have a := (hit_at (m := m + 1) h3 hy).1
      have b := (hit_at (m := m) h3 hy).1
      have nb : ¬ hit off st m k := fun h => by have := b.1 h; omega
      simp [a.2 (show m < m + 1 by omega), nb]
    · have hn : ¬ (k : Int) = off + (m : Int) * st := fun h => e (by omega)
      have a := hit_not (k := m) h3 hn
      by_cases hh : hit off st m k
      · rw [if_pos hh, if_pos (a.2 hh)]
        by_cases h2 : y0 < k
        · rw [if_pos h2, if_pos (by omega)]; try omega
        · rw [if_neg h2, if_neg (by omega)]
      · rw [if_neg hh, if_neg (fun h => hh (a.1 h))]
        by_cases h2 : y0 < k
        · rw [if_pos h2, if_pos (by omega)]
        · rw [if_neg h2, if_neg (by omega)]

theorem cntH_all {n : Nat} {off st : Int} (h1 : 0 ≤ off) (h3 : 1 ≤ st) : ∀ m : Nat, Fits n off st m → cntH off st m n = m
  | 0, _ => cntH_zero off st h3 n
  | m + 1, h => by
    obtain ⟨a1, a2⟩ := fits_at h h1 h3 (show m < m + 1 by omega)
    obtain ⟨y0, hy⟩ := Int.eq_ofNat_of_zero_le (show 0 ≤ off + (m : Int) * st by omega)
    have hf : Fits n off st m := by
      by_cases h0 : m = 0
      · subst h0; exact .inl rfl
      · right
        have : ((m : Int) - 1) * st ≤ (m : Int) * st := Int.mul_le_mul_of_nonneg_right (by omega) (by omega)
        omega
    rw [cntH_succ h3 hy.symm, cntH_all h1 h3 m hf, if_pos (by omega)]

theorem cntH_le (off st : Int) (m : Nat) : ∀ k, cntH off st m k ≤ k
  | 0 => Nat.le_refl _
  | k + 1 => by
    have := cntH_le off st m k
    show cntH off st m k + (if hit off st m k then 1 else 0) ≤ k + 1
    split <;> omega

/-- What was gathered, scattered back, changes nothing. -/
theorem scat_gath {f : Nat → Int} {off st : Int} {m : Nat} (h1 : 0 ≤ off) (h3 : 1 ≤ st) (y : Nat) : scat f (gath f off st) off st m y = f y := by
  unfold scat
  by_cases h : hit off st m y
  · rw [if_pos h]
    unfold gath
    obtain ⟨a, b, c⟩ := h
    have hd := Int.mul_ediv_add_emod ((y : Int) - off) st
    rw [b] at hd
    have hq := Int.ediv_nonneg (show 0 ≤ (y : Int) - off by omega) (show 0 ≤ st by omega)
    congr 1
    rw [Int.toNat_of_nonneg hq, Int.mul_comm]
    omega
  · rw [if_neg h]

end Go.Proofs.Ytkjnlgbpfpkjhaa
