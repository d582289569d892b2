import Ieee.Arith
/- Rounding whole numbers to 53 bits, to nearest, ties to even: plain laws. -/
namespace Fl

/-- 'n / 2 ^ k', to nearest, ties to even. -/
def ce (n k : Nat) : Nat :=
  n / 2 ^ k + if 2 ^ k < 2 * (n % 2 ^ k) ∨ (2 ^ k = 2 * (n % 2 ^ k) ∧ n / 2 ^ k % 2 = 1) then 1 else 0

theorem cut_eq (neg : Bool) (n k : Nat) : Ieee.Toward.even.cut neg n k = ce n k := by
  unfold Ieee.Toward.cut ce
  by_cases h : k ≤ n.log2 + 2
  · rw [Nat.min_eq_left h]
    simp only [Nat.one_shiftLeft]
    by_cases c : 2 ^ k < 2 * (n % 2 ^ k) ∨ (2 ^ k = 2 * (n % 2 ^ k) ∧ n / 2 ^ k % 2 = 1)
    · rw [if_pos c]
      rcases c with c | ⟨c, d⟩
      · simp [c]
      · have : ¬ 2 ^ k < 2 * (n % 2 ^ k) := by omega
        simp [← c, d]
    · rw [if_neg c]
      have c1 : ¬ 2 ^ k < 2 * (n % 2 ^ k) := fun h => c (.inl h)
      have c2 : ¬ (2 ^ k = 2 * (n % 2 ^ k) ∧ n / 2 ^ k % 2 = 1) := fun h => c (.inr h)
      simp only [decide_eq_false c1, Bool.false_or]
      by_cases e : 2 ^ k = 2 * (n % 2 ^ k)
      · have : ¬ n / 2 ^ k % 2 = 1 := fun h => c2 ⟨e, h⟩
        simp [this]
      · have e' : (2 ^ k == 2 * (n % 2 ^ k)) = false := by simpa using e
        rw [e']; rfl
  · have hk : n.log2 + 2 ≤ k := by omega
    rw [Nat.min_eq_right hk]
    simp only [Nat.one_shiftLeft]
    have h1 : n < 2 ^ (n.log2 + 1) := Nat.lt_log2_self
    have h2 : 2 ^ (n.log2 + 2) = 2 * 2 ^ (n.log2 + 1) := by rw [Nat.pow_succ]; omega
    have h3 : 2 ^ (n.log2 + 2) ≤ 2 ^ k := Nat.pow_le_pow_right (by omega) hk
    have a1 : n / 2 ^ (n.log2 + 2) = 0 := Nat.div_eq_of_lt (by omega)
    have a2 : n % 2 ^ (n.log2 + 2) = n := Nat.mod_eq_of_lt (by omega)
    have b1 : n / 2 ^ k = 0 := Nat.div_eq_of_lt (by omega)
    have b2 : n % 2 ^ k = n := Nat.mod_eq_of_lt (by omega)
    rw [a1, a2, b1, b2]
    have c1 : ¬ 2 ^ (n.log2 + 2) < 2 * n := by omega
    have c2 : ¬ 2 ^ k < 2 * n := by omega
    simp [c1, c2]

theorem ce_zero (n : Nat) : ce n 0 = n := by
  unfold ce; simp [Nat.mod_one]

/-- The nearest: within half a unit; where just half, even. -/
theorem ce_near (n k : Nat) : 2 * (ce n k * 2 ^ k) ≤ 2 * n + 2 ^ k ∧ 2 * n ≤ 2 * (ce n k * 2 ^ k) + 2 ^ k ∧
    ((2 * (ce n k * 2 ^ k) = 2 * n + 2 ^ k ∨ 2 * n = 2 * (ce n k * 2 ^ k) + 2 ^ k) → ce n k % 2 = 0) := by
  unfold ce
  have hP : 0 < 2 ^ k := Nat.two_pow_pos k
  have hm := Nat.div_add_mod n (2 ^ k)
  have hr := Nat.mod_lt n hP
  generalize 2 ^ k = P at *
  generalize n / P = d at *
  generalize n % P = r at *
  have e1 : (d + 1) * P = P * d + P := by rw [Nat.add_mul, Nat.mul_comm]; omega
  have e0 : (d + 0) * P = P * d := by rw [Nat.add_zero, Nat.mul_comm]
  split
  · rw [e1]
    refine ⟨by omega, by omega, ?_⟩
    intro h
    rename_i c
    omega
  · rw [e0]
    refine ⟨by omega, by omega, ?_⟩
    intro h
    rename_i c
    omega

def lev (N : Nat) : Nat := N.log2 - 52

theorem lev_lo (N : Nat) : lev N = 0 ∨ 2 ^ (52 + lev N) ≤ N := by
  unfold lev
  by_cases h : N.log2 ≤ 52
  · left; omega
  · right
    have h0 : N ≠ 0 := by intro e; subst e; simp at h
    have := Nat.log2_self_le h0
    rwa [show 52 + (N.log2 - 52) = N.log2 from by omega]

theorem lev_hi (N : Nat) : N < 2 ^ (53 + lev N) := by
  unfold lev
  have h : N < 2 ^ (N.log2 + 1) := Nat.lt_log2_self
  refine Nat.lt_of_lt_of_le h (Nat.pow_le_pow_right (by omega) (by omega))

/-- A whole number rounded to 53 bits. -/
def rn (N : Nat) : Nat := ce N (lev N) * 2 ^ lev N

/-- What of a rounding is used. -/
theorem rn_spec (N : Nat) : ∃ k q : Nat, (k = 0 ∨ 2 ^ 52 * 2 ^ k ≤ N) ∧ N < 2 ^ 53 * 2 ^ k ∧ rn N = q * 2 ^ k ∧ q ≤ 2 ^ 53 ∧
    2 * rn N ≤ 2 * N + 2 ^ k ∧ 2 * N ≤ 2 * rn N + 2 ^ k ∧ (k = 0 → rn N = N) ∧
    ((2 * rn N = 2 * N + 2 ^ k ∨ 2 * N = 2 * rn N + 2 ^ k) → q % 2 = 0) := by
  refine ⟨lev N, ce N (lev N), ?_, ?_, rfl, ?_, (ce_near N _).1, (ce_near N _).2.1, ?_, (ce_near N _).2.2⟩
  · rw [← Nat.pow_add]; exact lev_lo N
  · rw [← Nat.pow_add]; exact lev_hi N
  · have h := lev_hi N
    have hn := (ce_near N (lev N)).1
    rw [Nat.pow_add] at h
    have hP : 0 < 2 ^ lev N := Nat.two_pow_pos _
    generalize ce N (lev N) = q at *
    generalize 2 ^ lev N = P at *
    apply Decidable.byContradiction
    intro hc
    have : 2 ^ 53 + 1 ≤ q := by omega
    have := Nat.mul_le_mul_right P this
    have e : (2 ^ 53 + 1) * P = 2 ^ 53 * P + P := by rw [Nat.add_mul, Nat.one_mul]
    omega
  · intro h; unfold rn; rw [h]; simp [ce_zero]

/-- Of a whole number with a sign. -/
def rnd (n : Int) : Int := if n < 0 then -(rn n.natAbs : Int) else (rn n.natAbs : Int)

theorem rn_zero : rn 0 = 0 := by decide
theorem rnd_zero : rnd 0 = 0 := by simp [rnd, rn_zero]

theorem rnd_neg (n : Int) : rnd (-n) = - rnd n := by
  unfold rnd
  rw [Int.natAbs_neg]
  by_cases h0 : n = 0
  · subst h0; simp [rn_zero]
  · split <;> split <;> omega

/-- The level of a rounding: at level k all is a multiple of 2^k. -/
structure Lv (n r : Int) (k : Nat) (q : Int) : Prop where
  lo : k = 0 ∨ 2 ^ 52 * 2 ^ k ≤ n ∨ n ≤ -(2 ^ 52 * 2 ^ k)
  hi : n < 2 ^ 53 * 2 ^ k
  hi' : -(2 ^ 53 * 2 ^ k) < n
  eq : r = q * 2 ^ k
  q1 : q ≤ 2 ^ 53
  q2 : -2 ^ 53 ≤ q
  up : 2 * r ≤ 2 * n + 2 ^ k
  dn : 2 * n ≤ 2 * r + 2 ^ k
  z : k = 0 → r = n
  ev : 2 * r = 2 * n + 2 ^ k ∨ 2 * n = 2 * r + 2 ^ k → q % 2 = 0

theorem rnd_lv (n : Int) : ∃ (k : Nat) (q : Int), Lv n (rnd n) k q := by
  obtain ⟨k, q, h1, h2, h3, h4, h5, h6, h7, h8⟩ := rn_spec n.natAbs
  have e3 : ((rn n.natAbs : Nat) : Int) = (q : Int) * 2 ^ k := by rw [h3]; simp
  have ek : ((2 ^ k : Nat) : Int) = 2 ^ k := by simp
  have eb : ((2 ^ 53 * 2 ^ k : Nat) : Int) = 2 ^ 53 * 2 ^ k := by simp
  have ea : ((2 ^ 52 * 2 ^ k : Nat) : Int) = 2 ^ 52 * 2 ^ k := by simp
  by_cases hn : n < 0
  · refine ⟨k, -q, ?_⟩
    have er : rnd n = -(rn n.natAbs : Int) := by simp [rnd, hn]
    have en : n = -(n.natAbs : Int) := by omega
    rw [er]
    constructor
    · rcases h1 with h | h
      · exact .inl h
      · right; right; rw [← ea]; omega
    · rw [← eb]; omega
    · rw [← eb]; omega
    · rw [e3, Int.neg_mul]
    · omega
    · omega
    · rw [← ek]; omega
    · rw [← ek]; omega
    · intro h; have := h7 h; omega
    · intro h; rw [← ek] at h
      have := h8 (by omega)
      omega
  · refine ⟨k, q, ?_⟩
    have er : rnd n = (rn n.natAbs : Int) := by simp [rnd, hn]
    have en : n = (n.natAbs : Int) := by omega
    rw [er]
    constructor
    · rcases h1 with h | h
      · exact .inl h
      · right; left; rw [← ea]; omega
    · rw [← eb]; omega
    · rw [← eb]; omega
    · rw [e3]
    · omega
    · omega
    · rw [← ek]; omega
    · rw [← ek]; omega
    · intro h; have := h7 h; omega
    · intro h; rw [← ek] at h
      have := h8 (by omega)
      omega

/-- A float, as a whole number of least units. -/
def Rep (n : Int) : Prop := ∃ (m : Int) (k : Nat), n = m * 2 ^ k ∧ m ≤ 2 ^ 53 ∧ -2 ^ 53 ≤ m

theorem rep_rnd (n : Int) : Rep (rnd n) := by
  obtain ⟨k, q, h⟩ := rnd_lv n
  exact ⟨q, k, h.eq, h.q1, h.q2⟩

theorem Rep.neg {n : Int} (h : Rep n) : Rep (-n) := by
  obtain ⟨m, k, e, a, b⟩ := h
  exact ⟨-m, k, by rw [e, Int.neg_mul], by omega, by omega⟩

theorem rep_zero : Rep 0 := ⟨0, 0, by simp, by omega, by omega⟩

theorem pow_pos_int (k : Nat) : (0 : Int) < 2 ^ k := by
  have := Nat.two_pow_pos k
  have e : ((2 ^ k : Nat) : Int) = 2 ^ k := by simp
  omega

/-- A multiple of P that is below P is 0. -/
theorem mul_small {a P : Int} (h1 : a * P < P) (h2 : -P < a * P) : a = 0 := by
  by_cases h : a = 0
  · exact h
  · exfalso
    have hP : 0 < P := by omega
    by_cases g : 0 < a
    · have : 1 * P ≤ a * P := Int.mul_le_mul_of_nonneg_right (by omega) (by omega)
      omega
    · have : a * P ≤ (-1) * P := Int.mul_le_mul_of_nonneg_right (by omega) (by omega)
      omega

/-- A float whose magnitude is at least 2^(52+k) is a multiple of 2^k. -/
theorem Rep.big {x : Int} (h : Rep x) {k : Nat} (hk : 2 ^ 52 * 2 ^ k ≤ x ∨ x ≤ -(2 ^ 52 * 2 ^ k)) : ∃ a : Int, x = a * 2 ^ k := by
  obtain ⟨m, j, e, a, b⟩ := h
  by_cases hj : k ≤ j
  · refine ⟨m * 2 ^ (j - k), ?_⟩
    rw [e, Int.mul_assoc, ← Int.pow_add, Nat.sub_add_cancel hj]
  · have hk1 : (2 : Int) ^ k = 2 ^ (k - j) * 2 ^ j := by rw [← Int.pow_add, Nat.sub_add_cancel (by omega)]
    obtain ⟨d, hd⟩ : ∃ d, k - j = d + 1 := ⟨k - j - 1, by omega⟩
    have hk2 : (2 : Int) ^ (k - j) = 2 * 2 ^ d := by rw [hd, Int.pow_succ, Int.mul_comm]
    have hpd := pow_pos_int d
    have hpj := pow_pos_int j
    -- |m| ≤ 2^53 and |m| 2^j ≥ 2^52 * 2 * 2^d * 2^j
    have hm : 2 ^ 53 * 2 ^ d ≤ m ∨ m ≤ -(2 ^ 53 * 2 ^ d) := by
      rw [hk1, hk2] at hk
      have e1 : (2 : Int) ^ 52 * (2 * 2 ^ d * 2 ^ j) = (2 ^ 53 * 2 ^ d) * 2 ^ j := by
        rw [← Int.mul_assoc, ← Int.mul_assoc]; rfl
      rw [e1, e, ← Int.neg_mul] at hk
      rcases hk with hk | hk
      · exact .inl (Int.le_of_mul_le_mul_right hk hpj)
      · exact .inr (Int.le_of_mul_le_mul_right hk hpj)
    have hd1 : (2 : Int) ^ d = 1 ∧ (m = 2 ^ 53 ∨ m = -2 ^ 53) := by
      generalize (2 : Int) ^ d = D at *
      omega
    refine ⟨if m = 2 ^ 53 then 2 ^ 52 else -2 ^ 52, ?_⟩
    rw [e, hk1, hk2, hd1.1]
    rcases hd1.2 with hm | hm <;> rw [hm]
    · rw [if_pos rfl, ← Int.mul_assoc]; rfl
    · rw [if_neg (by omega), ← Int.mul_assoc]; rfl

theorem Rep.rnd_eq {n : Int} (h : Rep n) : rnd n = n := by
  obtain ⟨k, q, hl⟩ := rnd_lv n
  by_cases hk : k = 0
  · exact hl.z hk
  · have hb : 2 ^ 52 * 2 ^ k ≤ n ∨ n ≤ -(2 ^ 52 * 2 ^ k) := by rcases hl.lo with h | h | h; exact absurd h hk; exact .inl h; exact .inr h
    obtain ⟨a, ha⟩ := h.big hb
    have e := hl.eq
    have hu := hl.up
    have hd := hl.dn
    have hp := pow_pos_int k
    have : q - a = 0 := by
      apply mul_small (P := 2 ^ k)
      · rw [Int.sub_mul, ← e, ← ha]; omega
      · rw [Int.sub_mul, ← e, ← ha]; omega
    rw [e, ha, show q = a from by omega]

/-- Nothing that is a float is nearer. -/
theorem rnd_near (n : Int) {x : Int} (hx : Rep x) : (rnd n - n ≤ x - n ∨ rnd n - n ≤ n - x) ∧ (n - rnd n ≤ x - n ∨ n - rnd n ≤ n - x) := by
  obtain ⟨k, q, hl⟩ := rnd_lv n
  by_cases hk : k = 0
  · have := hl.z hk; omega
  · have hb : 2 ^ 52 * 2 ^ k ≤ n ∨ n ≤ -(2 ^ 52 * 2 ^ k) := by rcases hl.lo with h | h | h; exact absurd h hk; exact .inl h; exact .inr h
    have e := hl.eq
    have hu := hl.up
    have hd := hl.dn
    have hp := pow_pos_int k
    by_cases hx2 : ∃ a : Int, x = a * 2 ^ k
    · obtain ⟨a, ha⟩ := hx2
      by_cases ht : a = q
      · subst ht; rw [e, ha]; omega
      · -- another multiple
        have h1 : 2 ^ k ≤ x - rnd n ∨ 2 ^ k ≤ rnd n - x := by
          rw [e, ha, ← Int.sub_mul, ← Int.sub_mul]
          by_cases g : a < q
          · right
            have := Int.mul_le_mul_of_nonneg_right (show 1 ≤ q - a from by omega) (Int.le_of_lt hp)
            omega
          · left
            have := Int.mul_le_mul_of_nonneg_right (show 1 ≤ a - q from by omega) (Int.le_of_lt hp)
            omega
        omega
    · -- x is small
      have hs : ¬ (2 ^ 52 * 2 ^ k ≤ x ∨ x ≤ -(2 ^ 52 * 2 ^ k)) := fun h => hx2 (hx.big h)
      -- 2^52 itself is a multiple
      have hq : (2 ^ 52 ≤ q) ∨ (q ≤ -2 ^ 52) := by
        rcases hb with h | h
        · left
          apply Decidable.byContradiction
          intro hc
          have := Int.mul_le_mul_of_nonneg_right (show q ≤ 2 ^ 52 - 1 from by omega) (Int.le_of_lt hp)
          rw [Int.sub_mul, ← e] at this
          omega
        · right
          apply Decidable.byContradiction
          intro hc
          have := Int.mul_le_mul_of_nonneg_right (show -2 ^ 52 + 1 ≤ q from by omega) (Int.le_of_lt hp)
          rw [Int.add_mul, ← e, Int.neg_mul] at this
          omega
      have hq' : 2 ^ 52 * 2 ^ k ≤ rnd n ∨ rnd n ≤ -(2 ^ 52 * 2 ^ k) := by
        rw [e, ← Int.neg_mul]
        rcases hq with h | h
        · exact .inl (Int.mul_le_mul_of_nonneg_right h (Int.le_of_lt hp))
        · exact .inr (Int.mul_le_mul_of_nonneg_right h (Int.le_of_lt hp))
      -- if rnd n lies beyond n by more than n - 2^52 P then .. it is within half a unit
      have hdist : ∀ m : Int, n - 2 ^ 52 * 2 ^ k = m → 0 ≤ m → 2 ^ 52 * 2 ^ k ≤ rnd n → rnd n - n ≤ m := by
        intro m hm h0 hr
        by_cases hq2 : q = 2 ^ 52
        · rw [e, hq2]; omega
        · have := Int.mul_le_mul_of_nonneg_right (show 2 ^ 52 + 1 ≤ q from by
              rcases hq with h | h
              · omega
              · exfalso
                have := Int.mul_le_mul_of_nonneg_right (show q ≤ 0 from by omega) (Int.le_of_lt hp)
                rw [← e] at this
                omega) (Int.le_of_lt hp)
          rw [Int.add_mul, ← e] at this
          omega
      have hdist' : ∀ m : Int, -n - 2 ^ 52 * 2 ^ k = m → 0 ≤ m → rnd n ≤ -(2 ^ 52 * 2 ^ k) → n - rnd n ≤ m := by
        intro m hm h0 hr
        by_cases hq2 : q = -2 ^ 52
        · rw [e, hq2, Int.neg_mul]; omega
        · have := Int.mul_le_mul_of_nonneg_right (show q ≤ -2 ^ 52 - 1 from by
              rcases hq with h | h
              · exfalso
                have := Int.mul_le_mul_of_nonneg_right (show 0 ≤ q from by omega) (Int.le_of_lt hp)
                rw [← e] at this
                omega
              · omega) (Int.le_of_lt hp)
          rw [Int.sub_mul, Int.neg_mul, ← e] at this
          omega
      rcases hb with h | h
      · have := hdist _ rfl (by omega) (by omega)
        omega
      · have := hdist' _ rfl (by omega) (by omega)
        omega

theorem rnd_mono {n m : Int} (h : n ≤ m) : rnd n ≤ rnd m := by
  by_cases e : n = m
  · rw [e]; omega
  · have a := rnd_near n (rep_rnd m)
    have b := rnd_near m (rep_rnd n)
    omega

/-- The rounding error is at most half a unit in 53 bits. -/
theorem rnd_rel (n : Int) : 2 ^ 53 * (rnd n - n) ≤ n.natAbs ∧ 2 ^ 53 * (n - rnd n) ≤ n.natAbs := by
  obtain ⟨k, q, hl⟩ := rnd_lv n
  by_cases hk : k = 0
  · have := hl.z hk; omega
  · have hb : 2 ^ 52 * 2 ^ k ≤ n ∨ n ≤ -(2 ^ 52 * 2 ^ k) := by rcases hl.lo with h | h | h; exact absurd h hk; exact .inl h; exact .inr h
    have hu := hl.up
    have hd := hl.dn
    generalize (2 : Int) ^ k = P at *
    omega

/-- The error of a sum of two floats is a float. -/
theorem rep_err {x y : Int} (hx : Rep x) (hy : Rep y) : Rep (x + y - rnd (x + y)) := by
  have nx := rnd_near (x + y) hx
  have ny := rnd_near (x + y) hy
  obtain ⟨k, q, hl⟩ := rnd_lv (x + y)
  by_cases hk : k = 0
  · rw [hl.z hk, Int.sub_self]; exact rep_zero
  have e := hl.eq
  obtain ⟨a, i, ex, a1, a2⟩ := hx
  obtain ⟨b, j, ey, b1, b2⟩ := hy
  -- multiples of the least of the three
  have key : ∀ (x y a b : Int) (i j : Nat), x = a * 2 ^ i → y = b * 2 ^ j → i ≤ j → a ≤ 2 ^ 53 → -2 ^ 53 ≤ a → x + y - rnd (x + y) ≤ x.natAbs → rnd (x + y) - (x + y) ≤ x.natAbs →
      (∃ c : Int, rnd (x + y) = c * 2 ^ i) → Rep (x + y - rnd (x + y)) := by
    intro x y a b i j ex ey hij a1 a2 h1 h2 ⟨c, hc⟩
    refine ⟨a + b * 2 ^ (j - i) - c, i, ?_, ?_, ?_⟩
    · rw [Int.sub_mul, Int.add_mul, ← ex, ← hc, Int.mul_assoc, ← Int.pow_add, Nat.sub_add_cancel hij, ← ey]
    · have hp := pow_pos_int i
      have : (a + b * 2 ^ (j - i) - c) * 2 ^ i ≤ 2 ^ 53 * 2 ^ i := by
        rw [Int.sub_mul, Int.add_mul, ← ex, ← hc, Int.mul_assoc, ← Int.pow_add, Nat.sub_add_cancel hij, ← ey]
        have : (x.natAbs : Int) ≤ 2 ^ 53 * 2 ^ i := by
          have h1 := Int.mul_le_mul_of_nonneg_right a1 (Int.le_of_lt hp)
          have h2 := Int.mul_le_mul_of_nonneg_right a2 (Int.le_of_lt hp)
          rw [Int.neg_mul] at h2
          rw [← ex] at h1 h2
          omega
        omega
      exact Int.le_of_mul_le_mul_right this hp
    · have hp := pow_pos_int i
      have : -2 ^ 53 * 2 ^ i ≤ (a + b * 2 ^ (j - i) - c) * 2 ^ i := by
        rw [Int.sub_mul, Int.add_mul, ← ex, ← hc, Int.mul_assoc, ← Int.pow_add, Nat.sub_add_cancel hij, ← ey]
        have : (x.natAbs : Int) ≤ 2 ^ 53 * 2 ^ i := by
          have h1 := Int.mul_le_mul_of_nonneg_right a1 (Int.le_of_lt hp)
          have h2 := Int.mul_le_mul_of_nonneg_right a2 (Int.le_of_lt hp)
          rw [Int.neg_mul] at h2
          rw [← ex] at h1 h2
          omega
        rw [Int.neg_mul]
        omega
      exact Int.le_of_mul_le_mul_right this hp
  -- is rnd (x+y) a multiple of 2^i ?
  have mult : ∀ i : Nat, i ≤ k → ∃ c : Int, rnd (x + y) = c * 2 ^ i := fun i hi => by
    refine ⟨q * 2 ^ (k - i), ?_⟩
    rw [e, Int.mul_assoc, ← Int.pow_add, Nat.sub_add_cancel hi]
  by_cases hij : i ≤ j
  · by_cases hik : i ≤ k
    · exact key x y a b i j ex ey hij a1 a2 (by omega) (by omega) (mult i hik)
    · -- both are multiples of 2^k: exact
      have hm : ∃ c : Int, x + y = c * 2 ^ k := ⟨a * 2 ^ (i - k) + b * 2 ^ (j - k), by
        rw [Int.add_mul, Int.mul_assoc, Int.mul_assoc, ← Int.pow_add, ← Int.pow_add, Nat.sub_add_cancel (by omega), Nat.sub_add_cancel (by omega), ← ex, ← ey]⟩
      obtain ⟨c, hc⟩ := hm
      have hu := hl.up
      have hd := hl.dn
      have hp := pow_pos_int k
      have : q - c = 0 := by
        apply mul_small (P := 2 ^ k)
        · rw [Int.sub_mul, ← e, ← hc]; omega
        · rw [Int.sub_mul, ← e, ← hc]; omega
      rw [e, hc, show q = c from by omega, Int.sub_self]
      exact rep_zero
  · by_cases hjk : j ≤ k
    · have := key y x b a j i ey ex (by omega) b1 b2 (by rw [Int.add_comm y x]; omega) (by rw [Int.add_comm y x]; omega) (by rw [Int.add_comm y x]; exact mult j hjk)
      rwa [Int.add_comm y x] at this
    · have hm : ∃ c : Int, x + y = c * 2 ^ k := ⟨a * 2 ^ (i - k) + b * 2 ^ (j - k), by
        rw [Int.add_mul, Int.mul_assoc, Int.mul_assoc, ← Int.pow_add, ← Int.pow_add, Nat.sub_add_cancel (by omega), Nat.sub_add_cancel (by omega), ← ex, ← ey]⟩
      obtain ⟨c, hc⟩ := hm
      have hu := hl.up
      have hd := hl.dn
      have hp := pow_pos_int k
      have : q - c = 0 := by
        apply mul_small (P := 2 ^ k)
        · rw [Int.sub_mul, ← e, ← hc]; omega
        · rw [Int.sub_mul, ← e, ← hc]; omega
      rw [e, hc, show q = c from by omega, Int.sub_self]
      exact rep_zero

end Fl
