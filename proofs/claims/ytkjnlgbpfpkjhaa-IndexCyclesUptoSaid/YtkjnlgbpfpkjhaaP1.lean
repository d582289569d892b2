/- Plain laws on radices, digits and numbers. -/
set_option linter.unusedSimpArgs false
set_option linter.unusedVariables false
namespace Go.Proofs.Ytkjnlgbpfpkjhaa

/-- The product of the first k radices, where they are such. -/
def prodTo (f : Nat → Int) : Nat → Option Int
  | 0 => some 1
  | k + 1 => (prodTo f k).bind fun m => if f k < 2 ∨ 1048576 < m * f k then none else some (m * f k)

def prodO (f : Nat → Int) (n : Nat) : Option Int := if 30 < n then none else prodTo f n

theorem prodTo_none {f : Nat → Int} {k : Nat} (h : prodTo f k = none) : ∀ d, prodTo f (k + d) = none
  | 0 => h
  | d + 1 => by rw [← Nat.add_assoc]; unfold prodTo; rw [prodTo_none h d]; rfl

theorem prodTo_none_le {f : Nat → Int} {k n : Nat} (h : prodTo f k = none) (hk : k ≤ n) : prodTo f n = none := by
  have := prodTo_none h (n - k)
  rwa [show k + (n - k) = n from by omega] at this

theorem prodTo_step {f : Nat → Int} {k : Nat} {m : Int} (h : prodTo f k = some m) (h1 : 2 ≤ f k) (h2 : m * f k ≤ 1048576) : prodTo f (k + 1) = some (m * f k) := by
  unfold prodTo; rw [h]; simp only [Option.bind_some]; rw [if_neg (by omega)]
theorem prodTo_stop {f : Nat → Int} {k : Nat} {m : Int} (h : prodTo f k = some m) (h1 : f k < 2 ∨ 1048576 < m * f k) : prodTo f (k + 1) = none := by
  unfold prodTo; rw [h]; simp only [Option.bind_some]; rw [if_pos h1]

/-- The weight of the k-th digit. -/
def wt (f : Nat → Int) : Nat → Int
  | 0 => 1
  | k + 1 => wt f k * f k

theorem prodTo_wt {f : Nat → Int} : ∀ {k : Nat} {m : Int}, prodTo f k = some m → m = wt f k ∧ 1 ≤ m ∧ m ≤ 1048576 ∧ (∀ i, i < k → 2 ≤ f i) ∧ ∀ i, i ≤ k → 1 ≤ wt f i ∧ wt f i ≤ m
  | 0, m, h => by
    cases h
    exact ⟨rfl, by omega, by omega, fun i hi => by omega, fun i hi => by obtain rfl : i = 0 := (by omega); exact ⟨Int.le_refl _, Int.le_refl _⟩⟩
  | k + 1, m, h => by
    unfold prodTo at h
    cases hp : prodTo f k with
    | none => rw [hp] at h; cases h
    | some m0 =>
      rw [hp] at h
      simp only [Option.bind_some] at h
      obtain ⟨h1, h2, h3, h4, h5⟩ := prodTo_wt hp
      split at h
      · cases h
      · rename_i hc
        cases h
        have hm : m0 ≤ m0 * f k := by
          have : m0 * 1 ≤ m0 * f k := Int.mul_le_mul_of_nonneg_left (by omega) (by omega)
          omega
        refine ⟨by rw [h1]; rfl, by omega, by omega, fun i hi => ?_, fun i hi => ?_⟩
        · by_cases e : i = k
          · subst e; omega
          · exact h4 i (by omega)
        · by_cases e : i = k + 1
          · subst e
            have : wt f (k + 1) = m0 * f k := by rw [h1]; rfl
            omega
          · have := h5 i (by omega)
            omega

theorem prodO_some {f : Nat → Int} {n : Nat} {m : Int} (h : prodO f n = some m) : n ≤ 30 ∧ prodTo f n = some m := by
  unfold prodO at h
  split at h
  · cases h
  · exact ⟨by omega, h⟩

/-- What is left of a number behind k digits. -/
def left (f : Nat → Int) (x : Int) : Nat → Int
  | 0 => x
  | k + 1 => left f x k / f k
/-- The k-th digit. -/
def dig (f : Nat → Int) (x : Int) (k : Nat) : Int := left f x k % f k

theorem left_bd {f : Nat → Int} {x : Int} {n : Nat} (hf : ∀ i, i < n → 2 ≤ f i) (hx : 0 ≤ x) : ∀ k, k ≤ n → 0 ≤ left f x k ∧ left f x k ≤ x
  | 0, _ => ⟨hx, Int.le_refl _⟩
  | k + 1, hk => by
    obtain ⟨h1, h2⟩ := left_bd hf hx k (by omega)
    have h3 := hf k (by omega)
    have h4 := Int.ediv_nonneg h1 (show 0 ≤ f k by omega)
    have h5 := Int.ediv_le_self (f k) h1
    exact ⟨h4, by show left f x k / f k ≤ x; omega⟩

theorem dig_bd {f : Nat → Int} {x : Int} {n : Nat} (hf : ∀ i, i < n → 2 ≤ f i) {k : Nat} (hk : k < n) : 0 ≤ dig f x k ∧ dig f x k < f k := by
  have := hf k hk
  exact ⟨Int.emod_nonneg _ (by omega), Int.emod_lt_of_pos _ (by omega)⟩

/-- A number out of its first k digits. -/
def num (f d : Nat → Int) : Nat → Int
  | 0 => 0
  | k + 1 => num f d k + wt f k * d k

theorem num_bd {f d : Nat → Int} {n : Nat} {m : Int} (h : prodTo f n = some m) : ∀ k, k ≤ n → (∀ i, i < k → 0 ≤ d i ∧ d i < f i) → 0 ≤ num f d k ∧ num f d k < wt f k
  | 0, _, _ => ⟨Int.le_refl _, Int.zero_lt_one⟩
  | k + 1, hk, hd => by
    obtain ⟨h1, h2⟩ := num_bd h k (by omega) (fun i hi => hd i (by omega))
    obtain ⟨_, _, _, _, hw⟩ := prodTo_wt h
    obtain ⟨w1, w2⟩ := hw k (by omega)
    obtain ⟨d1, d2⟩ := hd k (by omega)
    have e1 := Int.mul_nonneg (show 0 ≤ wt f k by omega) d1
    have e2 : wt f k * d k + wt f k ≤ wt f k * f k := by
      have := Int.mul_le_mul_of_nonneg_left (show d k + 1 ≤ f k by omega) (show 0 ≤ wt f k by omega)
      rw [Int.mul_add, Int.mul_one] at this
      exact this
    refine ⟨?_, ?_⟩
    · show 0 ≤ num f d k + wt f k * d k; omega
    · show num f d k + wt f k * d k < wt f k * f k; omega

/-- The number as it is gathered from the last digit on: behind j digits. -/
def hor (f d : Nat → Int) (n : Nat) : Nat → Int
  | 0 => 0
  | j + 1 => hor f d n j * f (n - 1 - j) + d (n - 1 - j)

theorem hor_num (f d : Nat → Int) (n : Nat) : ∀ j, j ≤ n → num f d n = num f d (n - j) + wt f (n - j) * hor f d n j
  | 0, _ => by simp [hor]
  | j + 1, hj => by
    rw [hor_num f d n j (by omega), show n - j = (n - (j + 1)) + 1 from by omega]
    have e : n - 1 - j = n - (j + 1) := by omega
    simp only [hor, num, wt, e]
    rw [Int.mul_add, Int.mul_assoc, Int.mul_comm (f (n - (j + 1)))]
    omega

theorem hor_all (f d : Nat → Int) (n : Nat) : hor f d n n = num f d n := by
  have := hor_num f d n n (Nat.le_refl _)
  simp only [Nat.sub_self, num, wt] at this
  omega

theorem hor_bd {f d : Nat → Int} {n : Nat} {m : Int} (h : prodTo f n = some m) (hd : ∀ i, i < n → 0 ≤ d i ∧ d i < f i) : ∀ j, j ≤ n → 0 ≤ hor f d n j ∧ hor f d n j ≤ 1048576 := by
  intro j hj
  have h0 : ∀ j, j ≤ n → 0 ≤ hor f d n j := by
    intro j
    induction j with
    | zero => intro _; exact Int.le_refl _
    | succ j ih =>
      intro hj
      obtain ⟨_, _, _, h4, _⟩ := prodTo_wt h
      have a := ih (by omega)
      have b := h4 (n - 1 - j) (by omega)
      have c := hd (n - 1 - j) (by omega)
      have := Int.mul_nonneg a (show 0 ≤ f (n - 1 - j) by omega)
      show 0 ≤ hor f d n j * f (n - 1 - j) + d (n - 1 - j)
      omega
  refine ⟨h0 j hj, ?_⟩
  have e := hor_num f d n j hj
  obtain ⟨h1, _, h3, _, h5⟩ := prodTo_wt h
  obtain ⟨b1, b2⟩ := num_bd h n (Nat.le_refl _) hd
  obtain ⟨c1, _⟩ := num_bd h (n - j) (by omega) (fun i hi => hd i (by omega))
  obtain ⟨w1, _⟩ := h5 (n - j) (by omega)
  have : 1 * hor f d n j ≤ wt f (n - j) * hor f d n j := Int.mul_le_mul_of_nonneg_right w1 (h0 j hj)
  omega

end Go.Proofs.Ytkjnlgbpfpkjhaa
