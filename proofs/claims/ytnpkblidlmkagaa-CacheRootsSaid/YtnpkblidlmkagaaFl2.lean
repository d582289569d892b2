import Derived.Test.YtnpkblidlmkagaaFl1
/- Sums, splits and products of floats without an error: plain laws on whole numbers. -/
namespace Fl

theorem rep_of_mul {x c : Int} {k : Nat} (e : x = c * 2 ^ k) (h1 : x < 2 ^ 53 * 2 ^ k + 2 ^ k) (h2 : -(2 ^ 53 * 2 ^ k + 2 ^ k) < x) : Rep x := by
  have hp := pow_pos_int k
  refine ⟨c, k, e, ?_, ?_⟩
  · apply Decidable.byContradiction
    intro hc
    have := Int.mul_le_mul_of_nonneg_right (show 2 ^ 53 + 1 ≤ c from by omega) (Int.le_of_lt hp)
    rw [Int.add_mul, ← e] at this
    omega
  · apply Decidable.byContradiction
    intro hc
    have := Int.mul_le_mul_of_nonneg_right (show c ≤ -2 ^ 53 - 1 from by omega) (Int.le_of_lt hp)
    rw [Int.sub_mul, Int.neg_mul, ← e] at this
    omega

/-- A multiple of the unit of its own rounding is rounded to itself. -/
theorem exact_of_mul {n r : Int} {k : Nat} {q : Int} (hl : Lv n r k q) {c : Int} (hc : n = c * 2 ^ k) : r = n := by
  have hu := hl.up
  have hd := hl.dn
  have e := hl.eq
  have hp := pow_pos_int k
  have : q - c = 0 := by
    apply mul_small (P := 2 ^ k)
    · rw [Int.sub_mul, ← e, ← hc]; omega
    · rw [Int.sub_mul, ← e, ← hc]; omega
  rw [e, hc, show q = c from by omega]

theorem dvd_up {x : Int} {i k : Nat} (h : i ≤ k) {c : Int} (e : x = c * 2 ^ k) : ∃ d : Int, x = d * 2 ^ i :=
  ⟨c * 2 ^ (k - i), by rw [e, Int.mul_assoc, ← Int.pow_add, Nat.sub_add_cancel h]⟩

/-- The greater of two summands is a multiple of half the sum's unit; the lesser one is below the sum's unit times 2^52, or the sum is exact. -/
theorem sum_parts {a b : Int} (ha : Rep a) (hb : Rep b) (hab : b.natAbs ≤ a.natAbs) (hn : rnd (a + b) ≠ a + b) :
    ∃ k : Nat, ∃ α σ : Int, a = α * 2 ^ k ∧ rnd (a + b) = σ * 2 ^ k ∧ (b.natAbs : Int) < 2 ^ 53 * 2 ^ k ∧
      2 ^ 52 * 2 ^ k ≤ (a.natAbs : Int) ∧ (b.natAbs < a.natAbs → 2 ^ 52 * 2 ^ k < (a.natAbs : Int)) ∧ rnd (a + b) - (a + b) ≤ 2 ^ k ∧ (a + b) - rnd (a + b) ≤ 2 ^ k := by
  obtain ⟨k, q, hl⟩ := rnd_lv (a + b)
  have hk : k ≠ 0 := fun h => hn (hl.z h)
  obtain ⟨j, rfl⟩ : ∃ j, k = j + 1 := ⟨k - 1, by omega⟩
  have hp := pow_pos_int j
  have e2 : (2 : Int) ^ (j + 1) = 2 * 2 ^ j := by rw [Int.pow_succ, Int.mul_comm]
  have hlo := hl.lo
  have hu := hl.up
  have hd := hl.dn
  have he := hl.eq
  rw [e2] at hlo hu hd
  have hA : 2 ^ 52 * 2 ^ j ≤ (a.natAbs : Int) := by
    generalize (2 : Int) ^ j = P at *
    omega
  obtain ⟨α, hα⟩ := ha.big (k := j) (by generalize (2 : Int) ^ j = P at *; omega)
  refine ⟨j, α, q * 2, hα, ?_, ?_, hA, ?_, ?_, ?_⟩
  · rw [he, e2, Int.mul_assoc]
  · apply Decidable.byContradiction
    intro hc
    have hb' : 2 ^ 52 * 2 ^ (j + 1) ≤ b ∨ b ≤ -(2 ^ 52 * 2 ^ (j + 1)) := by rw [e2]; generalize (2 : Int) ^ j = P at *; omega
    have ha' : 2 ^ 52 * 2 ^ (j + 1) ≤ a ∨ a ≤ -(2 ^ 52 * 2 ^ (j + 1)) := by rw [e2]; generalize (2 : Int) ^ j = P at *; omega
    obtain ⟨x, hx⟩ := ha.big ha'
    obtain ⟨y, hy⟩ := hb.big hb'
    exact hn (exact_of_mul hl (c := x + y) (by rw [Int.add_mul, ← hx, ← hy]))
  · intro h
    generalize (2 : Int) ^ j = P at *
    omega
  · generalize (2 : Int) ^ j = P at *
    omega
  · generalize (2 : Int) ^ j = P at *
    omega

/-- The second sum of the greater summand is exact. -/
theorem fast {a b : Int} (ha : Rep a) (hb : Rep b) (hab : b.natAbs ≤ a.natAbs) : Rep (rnd (a + b) - a) := by
  by_cases hn : rnd (a + b) = a + b
  · rw [hn, show a + b - a = b from by omega]; exact hb
  · obtain ⟨k, α, σ, h1, h2, h3, h4, h5, h6, h7⟩ := sum_parts ha hb hab hn
    refine rep_of_mul (k := k) (c := σ - α) (by rw [Int.sub_mul, ← h1, ← h2]) ?_ ?_
    · generalize (2 : Int) ^ k = P at *
      omega
    · generalize (2 : Int) ^ k = P at *
      omega

structure TwoSum (a b : Int) : Prop where
  u : rnd (rnd (a + b) - rnd (rnd (a + b) - a)) = rnd (a + b) - rnd (rnd (a + b) - a)
  f : rnd (a - (rnd (a + b) - rnd (rnd (a + b) - a))) = a - (rnd (a + b) - rnd (rnd (a + b) - a))
  d : rnd (b - rnd (rnd (a + b) - a)) = b - rnd (rnd (a + b) - a)

theorem two_sum_parts {a b : Int} (ha : Rep a) (hb : Rep b) : TwoSum a b := by
  have herr := rep_err ha hb
  by_cases hx : Rep (rnd (a + b) - a)
  · have ht : rnd (rnd (a + b) - a) = rnd (a + b) - a := hx.rnd_eq
    constructor
    · rw [ht, show rnd (a + b) - (rnd (a + b) - a) = a from by omega]; exact ha.rnd_eq
    · rw [ht, show a - (rnd (a + b) - (rnd (a + b) - a)) = 0 from by omega]; exact rnd_zero
    · rw [ht, show b - (rnd (a + b) - a) = a + b - rnd (a + b) from by omega]; exact herr.rnd_eq
  · have hlt : a.natAbs < b.natAbs := by
      apply Decidable.byContradiction
      intro hc
      exact hx (fast ha hb (by omega))
    have hn : rnd (a + b) ≠ a + b := by
      intro h; apply hx; rw [h, show a + b - a = b from by omega]; exact hb
    have hn' : rnd (b + a) ≠ b + a := by rw [Int.add_comm b a]; exact hn
    obtain ⟨k, β, σ, h1, h2, h3, h4, h5, h6, h7⟩ := sum_parts hb ha (by omega) hn'
    rw [Int.add_comm b a] at h2 h6 h7
    have h5' := h5 hlt
    have hp := pow_pos_int k
    -- t
    have hne := rnd_near (rnd (a + b) - a) hb
    obtain ⟨kt, qt, hlt'⟩ := rnd_lv (rnd (a + b) - a)
    have hbig : 2 ^ 52 * 2 ^ k ≤ rnd (a + b) - a ∨ rnd (a + b) - a ≤ -(2 ^ 52 * 2 ^ k) := by
      -- b is a multiple of 2^k above 2^52 2^k: at least one more
      have : 2 ^ 52 * 2 ^ k + 2 ^ k ≤ b ∨ b ≤ -(2 ^ 52 * 2 ^ k + 2 ^ k) := by
        by_cases g : 0 ≤ b
        · left
          have : 2 ^ 52 < β := by
            apply Decidable.byContradiction
            intro hc
            have := Int.mul_le_mul_of_nonneg_right (show β ≤ 2 ^ 52 from by omega) (Int.le_of_lt hp)
            rw [← h1] at this
            omega
          have := Int.mul_le_mul_of_nonneg_right (show 2 ^ 52 + 1 ≤ β from by omega) (Int.le_of_lt hp)
          rw [Int.add_mul, ← h1] at this
          omega
        · right
          have : β < -2 ^ 52 := by
            apply Decidable.byContradiction
            intro hc
            have := Int.mul_le_mul_of_nonneg_right (show -2 ^ 52 ≤ β from by omega) (Int.le_of_lt hp)
            rw [← h1, Int.neg_mul] at this
            omega
          have := Int.mul_le_mul_of_nonneg_right (show β ≤ -2 ^ 52 - 1 from by omega) (Int.le_of_lt hp)
          rw [Int.sub_mul, Int.neg_mul, ← h1] at this
          omega
      generalize (2 : Int) ^ k = P at *
      omega
    have hkt : k ≤ kt := by
      apply Decidable.byContradiction
      intro hc
      have h := hlt'.hi
      have h' := hlt'.hi'
      have : (2 : Int) ^ k = 2 ^ (k - kt - 1) * (2 * 2 ^ kt) := by
        rw [show 2 * (2 : Int) ^ kt = 2 ^ (kt + 1) from by rw [Int.pow_succ, Int.mul_comm], ← Int.pow_add, show k - kt - 1 + (kt + 1) = k from by omega]
      have g1 : 2 * (2 : Int) ^ kt ≤ 2 ^ k := by
        rw [this]
        have hp1 := pow_pos_int (k - kt - 1)
        have hp2 := pow_pos_int kt
        have := Int.mul_le_mul_of_nonneg_right (show 1 ≤ (2 : Int) ^ (k - kt - 1) from by omega) (show 0 ≤ 2 * (2 : Int) ^ kt from by omega)
        omega
      generalize (2 : Int) ^ k = P at *
      generalize (2 : Int) ^ kt = Q at *
      omega
    obtain ⟨τ, hτ⟩ := dvd_up hkt hlt'.eq
    have hbt : rnd (a + b) - rnd (rnd (a + b) - a) = (σ - τ) * 2 ^ k := by rw [Int.sub_mul, ← h2, ← hτ]
    have hA : Rep (rnd (a + b) - rnd (rnd (a + b) - a)) := by
      refine rep_of_mul hbt ?_ ?_
      · generalize (2 : Int) ^ k = P at *
        omega
      · generalize (2 : Int) ^ k = P at *
        omega
    have hB : Rep (b - rnd (rnd (a + b) - a)) := by
      refine rep_of_mul (c := β - τ) (k := k) (by rw [Int.sub_mul, ← h1, ← hτ]) ?_ ?_
      · generalize (2 : Int) ^ k = P at *
        omega
      · generalize (2 : Int) ^ k = P at *
        omega
    have hC : Rep (a - (rnd (a + b) - rnd (rnd (a + b) - a))) := by
      have := (rep_err (rep_rnd (a + b)) ha.neg).neg
      rw [show rnd (a + b) + -a = rnd (a + b) - a from by omega] at this
      rwa [show -(rnd (a + b) - a - rnd (rnd (a + b) - a)) = a - (rnd (a + b) - rnd (rnd (a + b) - a)) from by omega] at this
    exact ⟨hA.rnd_eq, hC.rnd_eq, hB.rnd_eq⟩

/-- What the program's Sum reckons. -/
def sumS (a b : Int) : Int := rnd (a + b)
def sumE (a b : Int) : Int :=
  let s := rnd (a + b)
  let t := rnd (s - a)
  let u := rnd (s - t)
  rnd (rnd (a - u) + rnd (b - t))

theorem two_sum {a b : Int} (ha : Rep a) (hb : Rep b) : sumE a b = a + b - rnd (a + b) := by
  have h := two_sum_parts ha hb
  unfold sumE
  simp only
  rw [h.u, h.f, h.d]
  rw [show a - (rnd (a + b) - rnd (rnd (a + b) - a)) + (b - rnd (rnd (a + b) - a)) = a + b - rnd (a + b) from by omega]
  exact (rep_err ha hb).rnd_eq

/-- Rounding goes with powers of two. -/
theorem rnd_scale (n : Int) (i : Nat) : rnd (n * 2 ^ i) = rnd n * 2 ^ i := by
  have hp := pow_pos_int i
  obtain ⟨k, q, hl⟩ := rnd_lv n
  by_cases hk : k = 0
  · have hz := hl.z hk
    subst hk
    have h1 := hl.hi
    have h2 := hl.hi'
    simp at h1 h2
    rw [hz]
    exact Rep.rnd_eq ⟨n, i, rfl, by omega, by omega⟩
  · obtain ⟨k', q', hl'⟩ := rnd_lv (n * 2 ^ i)
    -- the levels
    have hb : 2 ^ 52 * 2 ^ k ≤ n ∨ n ≤ -(2 ^ 52 * 2 ^ k) := by rcases hl.lo with h | h | h; exact absurd h hk; exact .inl h; exact .inr h
    have e1 : (2 : Int) ^ (k + i) = 2 ^ k * 2 ^ i := Int.pow_add ..
    have hb1 : 2 ^ 52 * 2 ^ (k + i) ≤ n * 2 ^ i ∨ n * 2 ^ i ≤ -(2 ^ 52 * 2 ^ (k + i)) := by
      rw [e1, ← Int.mul_assoc, ← Int.neg_mul]
      rcases hb with h | h
      · exact .inl (Int.mul_le_mul_of_nonneg_right h (Int.le_of_lt hp))
      · exact .inr (Int.mul_le_mul_of_nonneg_right h (Int.le_of_lt hp))
    have hb2 : n * 2 ^ i < 2 ^ 53 * 2 ^ (k + i) ∧ -(2 ^ 53 * 2 ^ (k + i)) < n * 2 ^ i := by
      rw [e1, ← Int.mul_assoc, ← Int.neg_mul]
      exact ⟨Int.mul_lt_mul_of_pos_right hl.hi hp, Int.mul_lt_mul_of_pos_right hl.hi' hp⟩
    have hkk : k' = k + i := by
      have hlt : ∀ a b : Nat, a < b → 2 * (2 : Int) ^ a ≤ 2 ^ b := by
        intro a b hab
        obtain ⟨d, rfl⟩ : ∃ d, b = a + 1 + d := ⟨b - a - 1, by omega⟩
        rw [Int.pow_add, Int.pow_succ]
        have h1 := pow_pos_int d
        have h2 := pow_pos_int a
        have := Int.mul_le_mul_of_nonneg_left (show 1 ≤ (2 : Int) ^ d from by omega) (show 0 ≤ (2 : Int) ^ a * 2 from by omega)
        omega
      have l1 := hl'.hi
      have l2 := hl'.hi'
      rcases Nat.lt_trichotomy k' (k + i) with h | h | h
      · exfalso
        have := hlt _ _ h
        generalize (2 : Int) ^ (k + i) = P at *
        generalize (2 : Int) ^ k' = Q at *
        omega
      · exact h
      · exfalso
        have := hlt _ _ h
        have hlo := hl'.lo
        have hk0 : k' ≠ 0 := by omega
        generalize (2 : Int) ^ (k + i) = P at *
        generalize (2 : Int) ^ k' = Q at *
        omega
    subst hkk
    have eq' := hl'.eq
    have eq := hl.eq
    have u' := hl'.up
    have d' := hl'.dn
    have u := Int.mul_le_mul_of_nonneg_right hl.up (Int.le_of_lt hp)
    have d := Int.mul_le_mul_of_nonneg_right hl.dn (Int.le_of_lt hp)
    rw [Int.add_mul, Int.mul_assoc, Int.mul_assoc, ← e1] at u d
    have eq2 : rnd n * 2 ^ i = q * 2 ^ (k + i) := by rw [eq, Int.mul_assoc, ← e1]
    have hpk := pow_pos_int (k + i)
    -- both multiples of the unit, both within half a unit: equal, or a tie
    by_cases hqq : q' = q
    · rw [eq', eq2, hqq]
    · exfalso
      have h1 : 2 ^ (k + i) ≤ q' * 2 ^ (k + i) - q * 2 ^ (k + i) ∨ 2 ^ (k + i) ≤ q * 2 ^ (k + i) - q' * 2 ^ (k + i) := by
        rw [← Int.sub_mul, ← Int.sub_mul]
        by_cases g : q' < q
        · right
          have := Int.mul_le_mul_of_nonneg_right (show 1 ≤ q - q' from by omega) (Int.le_of_lt hpk)
          omega
        · left
          have := Int.mul_le_mul_of_nonneg_right (show 1 ≤ q' - q from by omega) (Int.le_of_lt hpk)
          omega
      rw [← eq', ← eq2] at h1
      have ev' := hl'.ev
      have t' : 2 * rnd (n * 2 ^ i) = 2 * (n * 2 ^ i) + 2 ^ (k + i) ∨ 2 * (n * 2 ^ i) = 2 * rnd (n * 2 ^ i) + 2 ^ (k + i) := by omega
      have t : 2 * (rnd n * 2 ^ i) = 2 * (n * 2 ^ i) + 2 ^ (k + i) ∨ 2 * (n * 2 ^ i) = 2 * (rnd n * 2 ^ i) + 2 ^ (k + i) := by omega
      have g1 := ev' t'
      have t2 : 2 * rnd n = 2 * n + 2 ^ k ∨ 2 * n = 2 * rnd n + 2 ^ k := by
        rw [e1, ← Int.mul_assoc, ← Int.mul_assoc, ← Int.add_mul, ← Int.add_mul] at t
        rcases t with t | t
        · exact .inl (Int.eq_of_mul_eq_mul_right (by omega) t)
        · exact .inr (Int.eq_of_mul_eq_mul_right (by omega) t)
      have g2 := hl.ev t2
      -- they are just one unit apart
      have : q' - q = 1 ∨ q' - q = -1 := by
        have hd : (q' - q) * 2 ^ (k + i) = 2 ^ (k + i) ∨ (q' - q) * 2 ^ (k + i) = -2 ^ (k + i) := by
          rw [Int.sub_mul, ← eq', ← eq2]; omega
        rcases hd with hd | hd
        · left
          have : (q' - q) * 2 ^ (k + i) = 1 * 2 ^ (k + i) := by rw [hd]; omega
          exact Int.eq_of_mul_eq_mul_right (by omega) this
        · right
          have : (q' - q) * 2 ^ (k + i) = (-1) * 2 ^ (k + i) := by rw [hd]; omega
          exact Int.eq_of_mul_eq_mul_right (by omega) this
      omega

theorem mul_abs_le {a b A B : Int} (h1 : -A ≤ a) (h2 : a ≤ A) (h3 : -B ≤ b) (h4 : b ≤ B) : -(A * B) ≤ a * b ∧ a * b ≤ A * B := by
  have hA : 0 ≤ A := by omega
  have hB : 0 ≤ B := by omega
  have hm : (a * b).natAbs ≤ A.natAbs * B.natAbs := by
    rw [Int.natAbs_mul]
    exact Nat.mul_le_mul (by omega) (by omega)
  have e : ((A.natAbs * B.natAbs : Nat) : Int) = A * B := by
    rw [Int.natCast_mul]; rw [show ((A.natAbs : Nat) : Int) = A from by omega, show ((B.natAbs : Nat) : Int) = B from by omega]
  omega

/-- Rounding at a known level, by numerals. -/
theorem rnd_at (n : Int) (k : Nat) (h1 : 2 ^ 52 * 2 ^ k ≤ (n.natAbs : Int)) (h2 : (n.natAbs : Int) < 2 ^ 53 * 2 ^ k) :
    ∃ q : Int, rnd n = q * 2 ^ k ∧ 2 * (rnd n - n) ≤ 2 ^ k ∧ 2 * (n - rnd n) ≤ 2 ^ k := by
  obtain ⟨j, q, hl⟩ := rnd_lv n
  have hlt : ∀ a b : Nat, a < b → 2 * (2 : Int) ^ a ≤ 2 ^ b := by
    intro a b hab
    obtain ⟨d, rfl⟩ : ∃ d, b = a + 1 + d := ⟨b - a - 1, by omega⟩
    rw [Int.pow_add, Int.pow_succ]
    have h1 := pow_pos_int d
    have h2 := pow_pos_int a
    have := Int.mul_le_mul_of_nonneg_left (show 1 ≤ (2 : Int) ^ d from by omega) (show 0 ≤ (2 : Int) ^ a * 2 from by omega)
    omega
  have hlo := hl.lo
  have hhi := hl.hi
  have hhi' := hl.hi'
  rcases Nat.lt_trichotomy j k with h | h | h
  · exfalso
    have := hlt _ _ h
    generalize (2 : Int) ^ k = P at *
    generalize (2 : Int) ^ j = Q at *
    omega
  · subst h
    have := hl.up
    have := hl.dn
    exact ⟨q, hl.eq, by omega, by omega⟩
  · exfalso
    have := hlt _ _ h
    have hj : j ≠ 0 := by omega
    generalize (2 : Int) ^ k = P at *
    generalize (2 : Int) ^ j = Q at *
    omega

/-- What the program's Split reckons. -/
def splitH (a : Int) : Int :=
  let c := rnd (134217729 * a)
  let d := rnd (c - a)
  rnd (c - d)
def splitL (a : Int) : Int := rnd (a - splitH a)

theorem rep_small {n : Int} (h1 : n ≤ 2 ^ 53) (h2 : -2 ^ 53 ≤ n) : Rep n := ⟨n, 0, by simp, h1, h2⟩

theorem split_pos (A : Int) (h1 : 2 ^ 52 ≤ A) (h2 : A < 2 ^ 53) :
    ∃ g : Int, splitH A = g * 134217728 ∧ -67108864 ≤ g ∧ g ≤ 67108864 ∧ splitL A = A - splitH A ∧ -67108864 ≤ A - splitH A ∧ A - splitH A ≤ 67108864 := by
  have e27 : (2 : Int) ^ 27 = 134217728 := by decide
  have e28 : (2 : Int) ^ 28 = 268435456 := by decide
  -- c
  have hc : ∃ q : Int, rnd (134217729 * A) = q * 134217728 ∧ (2 * (rnd (134217729 * A) - 134217729 * A) ≤ 268435456 ∧ 2 * (134217729 * A - rnd (134217729 * A)) ≤ 268435456) ∧
      (134217729 * A < 2 ^ 80 → 2 * (rnd (134217729 * A) - 134217729 * A) ≤ 134217728 ∧ 2 * (134217729 * A - rnd (134217729 * A)) ≤ 134217728) := by
    by_cases hb : 134217729 * A < 2 ^ 80
    · obtain ⟨q, h3, h4, h5⟩ := rnd_at (134217729 * A) 27 (by omega) (by omega)
      rw [e27] at h3 h4 h5
      exact ⟨q, h3, by omega, fun _ => ⟨h4, h5⟩⟩
    · obtain ⟨q, h3, h4, h5⟩ := rnd_at (134217729 * A) 28 (by omega) (by omega)
      rw [e28] at h3 h4 h5
      exact ⟨q * 2, by omega, by omega, fun h => absurd h hb⟩
  obtain ⟨q, c1, c2, c3⟩ := hc
  unfold splitL splitH
  simp only
  have hcA : 2 ^ 79 ≤ rnd (134217729 * A) - A ∧ rnd (134217729 * A) - A ≤ 2 ^ 80 := by
    refine ⟨?_, by omega⟩
    by_cases hb : 134217729 * A < 2 ^ 80
    · have := c3 hb
      by_cases hA : A = 2 ^ 52
      · have : Rep (134217729 * A) := ⟨134217729, 52, by rw [hA], by omega, by omega⟩
        rw [this.rnd_eq]; omega
      · omega
    · omega
  -- d
  have hd : ∃ r : Int, rnd (rnd (134217729 * A) - A) = r * 134217728 ∧ 2 * (rnd (rnd (134217729 * A) - A) - (rnd (134217729 * A) - A)) ≤ 134217728 ∧
      2 * ((rnd (134217729 * A) - A) - rnd (rnd (134217729 * A) - A)) ≤ 134217728 := by
    by_cases hb : rnd (134217729 * A) - A < 2 ^ 80
    · obtain ⟨r, h3, h4, h5⟩ := rnd_at (rnd (134217729 * A) - A) 27 (by omega) (by omega)
      rw [e27] at h3 h4 h5
      exact ⟨r, h3, h4, h5⟩
    · have e : rnd (134217729 * A) - A = 2 ^ 80 := by omega
      have : Rep (rnd (134217729 * A) - A) := ⟨1, 80, by rw [e]; decide, by omega, by omega⟩
      rw [this.rnd_eq]
      exact ⟨2 ^ 53, by rw [e]; decide, by omega, by omega⟩
  obtain ⟨r, d1, d2, d3⟩ := hd
  generalize hC : rnd (134217729 * A) = C at *
  generalize hD : rnd (C - A) = D at *
  have hh : Rep (C - D) := ⟨q - r, 27, by rw [e27, Int.sub_mul, ← c1, ← d1], by omega, by omega⟩
  rw [hh.rnd_eq]
  have hl : Rep (A - (C - D)) := rep_small (by omega) (by omega)
  rw [hl.rnd_eq]
  exact ⟨q - r, by omega, by omega, by omega, rfl, by omega, by omega⟩

theorem splitH_neg (a : Int) : splitH (-a) = - splitH a := by
  unfold splitH
  simp only
  rw [Int.mul_neg, rnd_neg, show -rnd (134217729 * a) - -a = -(rnd (134217729 * a) - a) from by omega, rnd_neg,
    show -rnd (134217729 * a) - -rnd (rnd (134217729 * a) - a) = -(rnd (134217729 * a) - rnd (rnd (134217729 * a) - a)) from by omega, rnd_neg]

theorem splitL_neg (a : Int) : splitL (-a) = - splitL a := by
  unfold splitL
  rw [splitH_neg, show -a - -splitH a = -(a - splitH a) from by omega, rnd_neg]

theorem splitH_scale (a : Int) (i : Nat) : splitH (a * 2 ^ i) = splitH a * 2 ^ i := by
  unfold splitH
  simp only
  rw [← Int.mul_assoc, rnd_scale, ← Int.sub_mul, rnd_scale, ← Int.sub_mul, rnd_scale]

theorem splitL_scale (a : Int) (i : Nat) : splitL (a * 2 ^ i) = splitL a * 2 ^ i := by
  unfold splitL
  rw [splitH_scale, ← Int.sub_mul, rnd_scale]

structure Halves (A : Int) : Prop where
  h : ∃ g : Int, splitH A = g * 134217728 ∧ -67108864 ≤ g ∧ g ≤ 67108864
  e : splitL A = A - splitH A
  lo : -67108864 ≤ splitL A
  hi : splitL A ≤ 67108864

theorem split_halves (A : Int) (h1 : 2 ^ 52 ≤ A.natAbs) (h2 : A.natAbs < 2 ^ 53) : Halves A := by
  by_cases h : 0 ≤ A
  · obtain ⟨g, a, b, c, d, e, f⟩ := split_pos A (by omega) (by omega)
    exact ⟨⟨g, a, b, c⟩, d, by omega, by omega⟩
  · obtain ⟨g, a, b, c, d, e, f⟩ := split_pos (-A) (by omega) (by omega)
    rw [splitH_neg] at a d e f
    rw [splitL_neg] at d
    exact ⟨⟨-g, by omega, by omega, by omega⟩, by omega, by omega, by omega⟩

/-- What the program's Prod reckons of two numbers, its product 'p' given. -/
def prodE (a b p : Int) : Int :=
  let h := splitH a
  let l := splitL a
  let i := splitH b
  let m := splitL b
  rnd (rnd (rnd (rnd (rnd (h * i) - p) + rnd (h * m)) + rnd (l * i)) + rnd (l * m))

theorem dekker (A B : Int) (hA1 : 2 ^ 52 ≤ A.natAbs) (hA2 : A.natAbs < 2 ^ 53) (hB1 : 2 ^ 52 ≤ B.natAbs) (hB2 : B.natAbs < 2 ^ 53) :
    prodE A B (rnd (A * B)) = A * B - rnd (A * B) := by
  have hA := split_halves A hA1 hA2
  have hB := split_halves B hB1 hB2
  obtain ⟨g, hg, g1, g2⟩ := hA.h
  obtain ⟨d, hd, d1, d2⟩ := hB.h
  have eA := hA.e
  have eB := hB.e
  have l1 := hA.lo
  have l2 := hA.hi
  have m1 := hB.lo
  have m2 := hB.hi
  -- the product's level
  have hAB : 2 ^ 104 ≤ (A * B).natAbs ∧ (A * B).natAbs < 2 ^ 106 := by
    rw [Int.natAbs_mul]
    constructor
    · have := Nat.mul_le_mul hA1 hB1
      omega
    · have := Nat.mul_lt_mul'' hA2 hB2
      omega
  have hp : ∃ q : Int, rnd (A * B) = q * 2 ^ 52 ∧ rnd (A * B) - A * B ≤ 2 ^ 52 ∧ A * B - rnd (A * B) ≤ 2 ^ 52 := by
    by_cases hb : (A * B).natAbs < 2 ^ 105
    · obtain ⟨q, h3, h4, h5⟩ := rnd_at (A * B) 52 (by omega) (by omega)
      exact ⟨q, h3, by omega, by omega⟩
    · obtain ⟨q, h3, h4, h5⟩ := rnd_at (A * B) 53 (by omega) (by omega)
      exact ⟨q * 2, by omega, by omega, by omega⟩
  obtain ⟨q, p1, p2, p3⟩ := hp
  unfold prodE
  simp only
  generalize hl : splitL A = l at *
  generalize hm : splitL B = m at *
  generalize hh : splitH A = h at *
  generalize hi : splitH B = i at *
  have b1 := mul_abs_le (A := 67108864) (B := 67108864) g1 g2 d1 d2
  have b2 := mul_abs_le (A := 67108864) (B := 67108864) g1 g2 m1 m2
  have b3 := mul_abs_le (A := 67108864) (B := 67108864) l1 l2 d1 d2
  have b4 := mul_abs_le (A := 67108864) (B := 67108864) l1 l2 m1 m2
  have e1 : h * i = (g * d) * 18014398509481984 := by
    rw [hg, hd, Int.mul_assoc, ← Int.mul_assoc 134217728 d, Int.mul_comm 134217728 d, Int.mul_assoc, Int.mul_assoc]; rfl
  have e2 : h * m = (g * m) * 134217728 := by rw [hg, Int.mul_assoc, Int.mul_comm 134217728 m, Int.mul_assoc]
  have e3 : l * i = (l * d) * 134217728 := by rw [hd, Int.mul_assoc]
  have eAB : A * B = h * i + h * m + l * i + l * m := by
    rw [show A = h + l from by omega, show B = i + m from by omega, Int.add_mul, Int.mul_add, Int.mul_add]; omega
  generalize hgd : g * d = gd at *
  generalize hgm : g * m = gm at *
  generalize hld : l * d = ld at *
  generalize hlm : l * m = lm at *
  generalize hhi : h * i = hi' at *
  generalize hhm : h * m = hm' at *
  generalize hli : l * i = li' at *
  generalize hP : rnd (A * B) = p at *
  generalize A * B = AB at *
  have r1 : Rep hi' := ⟨gd, 54, by omega, by omega, by omega⟩
  have r2 : Rep hm' := ⟨gm, 27, by omega, by omega, by omega⟩
  have r3 : Rep li' := ⟨ld, 27, by omega, by omega, by omega⟩
  have r4 : Rep lm := rep_small (by omega) (by omega)
  have s1 : Rep (hi' - p) := ⟨gd * 4 - q, 52, by omega, by omega, by omega⟩
  have s2 : Rep (hi' - p + hm') := ⟨gd * 134217728 - q * 33554432 + gm, 27, by omega, by omega, by omega⟩
  have s3 : Rep (hi' - p + hm' + li') := rep_small (by omega) (by omega)
  have s4 : Rep (hi' - p + hm' + li' + lm) := rep_small (by omega) (by omega)
  rw [r1.rnd_eq, r2.rnd_eq, r3.rnd_eq, r4.rnd_eq, s1.rnd_eq, s2.rnd_eq, s3.rnd_eq, s4.rnd_eq]
  omega

end Fl
