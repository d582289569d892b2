import Derived.Test.YtnpkblidlmkagaaFl2
/- Floats (words of 64 bits) as whole numbers of least units; what the operations on words give. -/
namespace Fl
open Ieee

abbrev D : Format := Ieee.double

/-- Finite. -/
def Fnt (x : Nat) : Prop := x < 2 ^ 64 ∧ x % 2 ^ 63 < 2047 * 2 ^ 52

instance (x : Nat) : Decidable (Fnt x) := inferInstanceAs (Decidable (_ ∧ _))

def dv : Datum → Int
  | .number s m i => signed s m (i + 1074).toNat
  | _ => 0

/-- How many least units (of 2^-1074). -/
def iv (x : Nat) : Int := dv (D.read x)

theorem D_least : D.leastPlace = -1074 := by decide
theorem D_binade : D.binade = 2 ^ 52 := by decide
theorem D_sign : D.signWeight = 2 ^ 63 := by decide
theorem D_inf : D.infRung = 2047 * 2 ^ 52 := by decide

theorem signed_eq (s : Bool) (m k : Nat) : signed s m k = (if s then -1 else 1) * (m : Int) * 2 ^ k := by
  unfold signed
  cases s <;> simp [Nat.shiftLeft_eq, Int.neg_mul]

/-- The exponent below which nothing overflows. -/
@[irreducible] def Bt : Nat := 2097
theorem Bt_eq : Bt = 2097 := by unfold Bt; rfl
/-- A unit in least units. -/
@[irreducible] def U : Nat := 1074
theorem U_eq : U = 1074 := by unfold U; rfl

/-- A finite word is a number. -/
theorem read_fin {x : Nat} (h : Fnt x) : ∃ (s : Bool) (m : Nat) (k : Nat), D.read x = .number s m ((k : Int) - 1074) ∧ m < 2 ^ 53 ∧ k ≤ 2045 ∧ (k = 0 ∨ 2 ^ 52 ≤ m) ∧
    iv x = (if s then -1 else 1) * (m : Int) * 2 ^ k := by
  have h2 := h.2
  by_cases hc : x % 2 ^ 63 < 2 ^ 52
  · refine ⟨x / 2 ^ 63 % 2 == 1, x % 2 ^ 63, 0, ?_, by omega, by omega, .inl rfl, ?_⟩
    · unfold Format.read; rw [D_least, D_binade, D_sign]; simp only; rw [if_pos hc]; rfl
    · unfold iv Format.read; rw [D_least, D_binade, D_sign]; simp only; rw [if_pos hc]; simp only [dv]; rw [signed_eq]; rfl
  · refine ⟨x / 2 ^ 63 % 2 == 1, 2 ^ 52 + x % 2 ^ 63 % 2 ^ 52, x % 2 ^ 63 / 2 ^ 52 - 1, ?_, by omega, by omega, .inr (by omega), ?_⟩
    · unfold Format.read; rw [D_least, D_binade, D_sign, D_inf]; simp only; rw [if_neg hc, if_pos h2]
      congr 1
    · unfold iv Format.read; rw [D_least, D_binade, D_sign, D_inf]; simp only; rw [if_neg hc, if_pos h2]; simp only [dv]; rw [signed_eq]
      congr 2; omega

theorem rep_iv {x : Nat} (h : Fnt x) : Rep (iv x) := by
  obtain ⟨s, m, k, _, h2, _, _, h5⟩ := read_fin h
  refine ⟨(if s then -1 else 1) * (m : Int), k, h5, ?_, ?_⟩ <;> cases s <;> simp <;> omega

/-- The word of a sign and a rung. -/
theorem fin_word {s : Bool} {r : Nat} (h : r < 2047 * 2 ^ 52) : Fnt (D.word s r) := by
  unfold Format.word Fnt
  rw [D_sign]
  cases s
  · simp only [Bool.false_eq_true, if_false]; omega
  · simp only [if_true]; omega

theorem iv_word {s : Bool} {l q : Nat} (h : l * 2 ^ 52 + q < 2047 * 2 ^ 52) (h1 : q ≤ 2 ^ 53) (h2 : l = 0 ∨ 2 ^ 52 ≤ q) :
    iv (D.word s (l * 2 ^ 52 + q)) = (if s then -1 else 1) * (q : Int) * 2 ^ l := by
  have hw : D.word s (l * 2 ^ 52 + q) % 2 ^ 63 = l * 2 ^ 52 + q ∧ (D.word s (l * 2 ^ 52 + q) / 2 ^ 63 % 2 == 1) = s := by
    unfold Format.word
    rw [D_sign]
    cases s
    · simp only [Bool.false_eq_true, if_false]
      refine ⟨by omega, ?_⟩
      rw [Nat.div_eq_of_lt (by omega)]; rfl
    · simp only [if_true]
      refine ⟨by omega, ?_⟩
      rw [show (2 ^ 63 + (l * 2 ^ 52 + q)) / 2 ^ 63 = 1 from by omega]; rfl
  unfold iv Format.read
  rw [D_least, D_binade, D_sign, D_inf, hw.1, hw.2]
  simp only
  by_cases hc : l * 2 ^ 52 + q < 2 ^ 52
  · rw [if_pos hc]
    have : l = 0 := by omega
    subst this
    simp only [dv]
    rw [signed_eq]
    simp
  · rw [if_neg hc, if_pos h]
    simp only [dv]
    rw [signed_eq]
    by_cases hq : q = 2 ^ 53
    · rw [show (l * 2 ^ 52 + q) % 2 ^ 52 = 0 from by omega, show ((-1074 : Int) + ((l * 2 ^ 52 + q) / 2 ^ 52 - 1 : Nat) + 1074).toNat = l + 1 from by omega, hq, Int.pow_succ]
      cases s <;> simp <;> generalize (2 : Int) ^ l = P <;> omega
    · by_cases hz : q < 2 ^ 52
      · have : l = 0 := by omega
        omega
      · rw [show 2 ^ 52 + (l * 2 ^ 52 + q) % 2 ^ 52 = q from by omega, show ((-1074 : Int) + ((l * 2 ^ 52 + q) / 2 ^ 52 - 1 : Nat) + 1074).toNat = l from by omega]

/-- Cutting goes with powers of two. -/
theorem ce_up (m j d : Nat) : ce (m * 2 ^ j) (d + j) = ce m d := by
  unfold ce
  have hj := Nat.two_pow_pos j
  have e1 : m * 2 ^ j / 2 ^ (d + j) = m / 2 ^ d := by
    rw [Nat.pow_add, Nat.mul_div_mul_right _ _ hj]
  have e2 : m * 2 ^ j % 2 ^ (d + j) = m % 2 ^ d * 2 ^ j := by
    rw [Nat.pow_add, Nat.mul_mod_mul_right]
  rw [e1, e2, Nat.pow_add]
  have h1 : 2 ^ d * 2 ^ j < 2 * (m % 2 ^ d * 2 ^ j) ↔ 2 ^ d < 2 * (m % 2 ^ d) := by
    rw [← Nat.mul_assoc, Nat.mul_lt_mul_right hj]
  have h2 : 2 ^ d * 2 ^ j = 2 * (m % 2 ^ d * 2 ^ j) ↔ 2 ^ d = 2 * (m % 2 ^ d) := by
    rw [← Nat.mul_assoc, Nat.mul_left_inj (by omega)]
  simp only [h1, h2]

theorem ce_dn (m j l : Nat) (h : l ≤ j) : ce (m * 2 ^ j) l = m * 2 ^ (j - l) := by
  have : m * 2 ^ j = (m * 2 ^ (j - l)) * 2 ^ l := by rw [Nat.mul_assoc, ← Nat.pow_add, Nat.sub_add_cancel h]
  rw [this]
  have := ce_up (m * 2 ^ (j - l)) l 0
  rw [Nat.zero_add] at this
  rw [this, ce_zero]

theorem log2_shift (m j : Nat) (h : m ≠ 0) : (m * 2 ^ j).log2 = m.log2 + j := by
  have hp := Nat.two_pow_pos j
  rw [Nat.log2_eq_iff (by intro e; rcases Nat.mul_eq_zero.1 e with e | e <;> omega)]
  have h1 := Nat.log2_self_le h
  have h2 := @Nat.lt_log2_self m
  constructor
  · rw [Nat.pow_add]; exact Nat.mul_le_mul_right _ h1
  · rw [show m.log2 + j + 1 = m.log2 + 1 + j from by omega, Nat.pow_add]; exact Nat.mul_lt_mul_of_pos_right h2 hp

/-- A whole number of units of 2^(-1074 - s), rounded to a whole number of units of 2^-1074. -/
def lvs (s N : Nat) : Nat := max (N.log2 - 52) s
def rns (s N : Nat) : Nat := ce N (lvs s N) * 2 ^ (lvs s N - s)

theorem rns_zero (N : Nat) : rns 0 N = rn N := by
  unfold rns rn lvs lev
  simp

theorem ce_le {N k : Nat} (h : N < 2 ^ (53 + k)) : ce N k ≤ 2 ^ 53 := by
  have hn := (ce_near N k).1
  rw [Nat.pow_add] at h
  have hP : 0 < 2 ^ k := Nat.two_pow_pos _
  generalize ce N k = q at *
  generalize 2 ^ k = P at *
  apply Decidable.byContradiction
  intro hc
  have := Nat.mul_le_mul_right P (show 2 ^ 53 + 1 ≤ q from by omega)
  have e : (2 ^ 53 + 1) * P = 2 ^ 53 * P + P := by rw [Nat.add_mul, Nat.one_mul]
  omega

theorem ce_ge {N k : Nat} (h : 2 ^ (52 + k) ≤ N) : 2 ^ 52 ≤ ce N k := by
  have hP : 0 < 2 ^ k := Nat.two_pow_pos _
  unfold ce
  have : 2 ^ 52 ≤ N / 2 ^ k := by
    rw [Nat.le_div_iff_mul_le hP, ← Nat.pow_add]; exact h
  omega

theorem lvs_hi (s N : Nat) : N < 2 ^ (53 + lvs s N) := by
  have h : N < 2 ^ (N.log2 + 1) := Nat.lt_log2_self
  refine Nat.lt_of_lt_of_le h (Nat.pow_le_pow_right (by omega) ?_)
  unfold lvs; omega

theorem lvs_lo (s N : Nat) : lvs s N = s ∨ 2 ^ (52 + lvs s N) ≤ N := by
  unfold lvs
  by_cases h : N.log2 - 52 ≤ s
  · left; omega
  · right
    have h0 : N ≠ 0 := by intro e; subst e; simp at h
    have := Nat.log2_self_le h0
    rwa [show 52 + max (N.log2 - 52) s = N.log2 from by omega]

/-- What 'nearest' writes. -/
theorem nearest_spec (neg : Bool) (mag : Nat) (place : Int) (s N : Nat) (hs : 0 ≤ place + 1074 + s) (hN : N = mag * 2 ^ (place + 1074 + s).toNat) (hb : N < 2 ^ (Bt + s)) :
    Fnt (D.nearest neg mag place) ∧ iv (D.nearest neg mag place) = (if neg then -1 else 1) * (rns s N : Int) := by
  unfold Format.nearest
  by_cases h0 : mag = 0
  · rw [if_pos h0]
    have := @fin_word neg 0 (by omega)
    refine ⟨this, ?_⟩
    have h2 := @iv_word neg 0 0 (by decide) (by decide) (.inl rfl)
    simp only [Nat.zero_mul, Nat.add_zero] at h2
    rw [h2, hN, h0]
    simp [rns, ce]
  · rw [if_neg h0, D_least]
    simp only
    have hl : N.log2 = mag.log2 + (place + 1074 + s).toNat := by rw [hN, log2_shift _ _ h0]
    have efb : D.fractionBits = 52 := rfl
    have elast : max (place + (mag.log2 : Int) - (D.fractionBits : Int)) (-1074) = (lvs s N : Int) - s - 1074 := by
      unfold lvs
      rw [hl, efb]
      omega
    rw [elast]
    have ekept : Toward.even.cut neg (mag <<< (place - ((lvs s N : Int) - s - 1074)).toNat) ((lvs s N : Int) - s - 1074 - place).toNat = ce N (lvs s N) := by
      rw [cut_eq, Nat.shiftLeft_eq]
      by_cases hc : place ≤ (lvs s N : Int) - s - 1074
      · rw [show (place - ((lvs s N : Int) - s - 1074)).toNat = 0 from by omega, Nat.pow_zero, Nat.mul_one]
        rw [hN, ← ce_up mag (place + 1074 + s).toNat]
        congr 1
        rw [← hN]
        omega
      · rw [show ((lvs s N : Int) - s - 1074 - place).toNat = 0 from by omega, ce_zero]
        have := ce_dn mag (place + 1074 + s).toNat (lvs s N) (by omega)
        rw [← hN] at this
        rw [this]
        congr 2
        omega
    rw [ekept, D_binade, D_inf, show ((lvs s N : Int) - s - 1074 - -1074).toNat = lvs s N - s from by omega]
    have hq := ce_le (lvs_hi s N)
    have hlv : lvs s N - s ≤ 2044 := by
      have h1 := lvs_lo s N
      rcases h1 with h1 | h1
      · omega
      · apply Decidable.byContradiction
        intro hc
        have : 2 ^ (Bt + s) ≤ 2 ^ (52 + lvs s N) := Nat.pow_le_pow_right (by omega) (by have := Bt_eq; omega)
        omega
    have hlt : (lvs s N - s) * 2 ^ 52 + ce N (lvs s N) < 2047 * 2 ^ 52 := by
      have := Nat.mul_le_mul_right (2 ^ 52) hlv
      omega
    rw [Nat.min_eq_left (by omega)]
    refine ⟨fin_word hlt, ?_⟩
    rw [iv_word hlt hq ?_]
    · unfold rns
      rw [Int.mul_assoc]
      congr 1
    · rcases lvs_lo s N with h1 | h1
      · left; omega
      · right; exact ce_ge h1

theorem rnd_of_sign (neg : Bool) (n : Int) (h : (neg = true → n ≤ 0) ∧ (neg = false → 0 ≤ n)) : (if neg then -1 else 1) * (rn n.natAbs : Int) = rnd n := by
  unfold rnd
  cases neg
  · have := h.2 rfl
    have hn : ¬ n < 0 := by omega
    simp [hn]
  · have := h.1 rfl
    by_cases h0 : n = 0
    · subst h0; simp [rn_zero]
    · have hn : n < 0 := by omega
      simp [hn]

theorem shl_scale (s : Bool) (m : Nat) (a b : Nat) : signed s m (a + b) = signed s m a * 2 ^ b := by
  rw [signed_eq, signed_eq, Int.pow_add, Int.mul_assoc, Int.mul_assoc, Int.mul_assoc]

/-- The sum of two data. -/
theorem sum_spec {s t : Bool} {m n k l : Nat} (hb : (signed s m k + signed t n l).natAbs < 2 ^ Bt) :
    ∃ d, (Datum.number s m ((k : Int) - 1074)).sum (.number t n ((l : Int) - 1074)) = some d ∧ Fnt (D.write d) ∧ iv (D.write d) = rnd (signed s m k + signed t n l) := by
  refine ⟨_, rfl, ?_⟩
  simp only [Format.write]
  have key : ∀ (b : Nat) (T : Int) (z : Bool), (min ((k : Int) - 1074) ((l : Int) - 1074)) = (b : Int) - 1074 → T * 2 ^ b = signed s m k + signed t n l →
      Fnt (D.nearest (if T = 0 then z else decide (T < 0)) T.natAbs ((b : Int) - 1074)) ∧
      iv (D.nearest (if T = 0 then z else decide (T < 0)) T.natAbs ((b : Int) - 1074)) = rnd (signed s m k + signed t n l) := by
    intro b T z hmin hT
    have hp := pow_pos_int b
    have hN : (signed s m k + signed t n l).natAbs = T.natAbs * 2 ^ ((b : Int) - 1074 + 1074 + (0 : Nat)).toNat := by
      rw [← hT, Int.natAbs_mul]
      congr 1
      rw [show ((b : Int) - 1074 + 1074 + (0 : Nat)).toNat = b from by omega]
      have : ((2 ^ b : Nat) : Int) = 2 ^ b := by simp
      omega
    have h := nearest_spec (if T = 0 then z else decide (T < 0)) T.natAbs ((b : Int) - 1074) 0 _ (by omega) hN (by simpa using hb)
    refine ⟨h.1, ?_⟩
    rw [h.2, rns_zero]
    by_cases hT0 : T = 0
    · have e0 : signed s m k + signed t n l = 0 := by rw [← hT, hT0, Int.zero_mul]
      rw [e0]
      simp [rn_zero, rnd_zero]
    · rw [if_neg hT0]
      apply rnd_of_sign
      rw [← hT]
      constructor
      · intro hneg
        have : T < 0 := by simpa using hneg
        have := Int.mul_le_mul_of_nonneg_right (show T ≤ 0 from by omega) (Int.le_of_lt hp)
        rwa [Int.zero_mul] at this
      · intro hneg
        have : ¬ T < 0 := by simpa using hneg
        exact Int.mul_nonneg (by omega) (Int.le_of_lt hp)
  by_cases hkl : k ≤ l
  · have hmin : (min ((k : Int) - 1074) ((l : Int) - 1074)) = (k : Int) - 1074 := by omega
    rw [hmin]
    refine key k _ _ hmin ?_
    rw [show ((k : Int) - 1074 - ((k : Int) - 1074)).toNat = 0 from by omega, show ((l : Int) - 1074 - ((k : Int) - 1074)).toNat = l - k from by omega, Int.add_mul, ← shl_scale, ← shl_scale]
    rw [show 0 + k = k from by omega, show l - k + k = l from by omega]
  · have hmin : (min ((k : Int) - 1074) ((l : Int) - 1074)) = (l : Int) - 1074 := by omega
    rw [hmin]
    refine key l _ _ hmin ?_
    rw [show ((l : Int) - 1074 - ((l : Int) - 1074)).toNat = 0 from by omega, show ((k : Int) - 1074 - ((l : Int) - 1074)).toNat = k - l from by omega, Int.add_mul, ← shl_scale, ← shl_scale]
    rw [show 0 + l = l from by omega, show k - l + l = k from by omega]

theorem iv_signed {x : Nat} {s : Bool} {m k : Nat} (h : D.read x = .number s m ((k : Int) - 1074)) : iv x = signed s m k := by
  unfold iv
  rw [h]
  simp only [dv]
  rw [show ((k : Int) - 1074 + 1074).toNat = k from by omega]

def fadd (x y : Nat) : Option Nat := D.add x y
def fsub (x y : Nat) : Option Nat := D.sub x y
def fmul (x y : Nat) : Option Nat := D.mul x y
def fdiv (x y : Nat) : Option Nat := D.div x y

theorem fadd_spec {x y : Nat} (hx : Fnt x) (hy : Fnt y) (hb : (iv x + iv y).natAbs < 2 ^ Bt) :
    ∃ z, fadd x y = some z ∧ Fnt z ∧ iv z = rnd (iv x + iv y) := by
  obtain ⟨s, m, k, h1, _⟩ := read_fin hx
  obtain ⟨t, n, l, g1, _⟩ := read_fin hy
  rw [iv_signed h1, iv_signed g1] at hb ⊢
  obtain ⟨d, e, f, g⟩ := sum_spec hb
  refine ⟨D.write d, ?_, f, g⟩
  unfold fadd Format.add
  rw [h1, g1, e]; rfl

theorem signed_not (s : Bool) (m k : Nat) : signed (!s) m k = - signed s m k := by
  rw [signed_eq, signed_eq]
  cases s <;> simp [Int.neg_mul]

theorem fsub_spec {x y : Nat} (hx : Fnt x) (hy : Fnt y) (hb : (iv x - iv y).natAbs < 2 ^ Bt) :
    ∃ z, fsub x y = some z ∧ Fnt z ∧ iv z = rnd (iv x - iv y) := by
  obtain ⟨s, m, k, h1, _⟩ := read_fin hx
  obtain ⟨t, n, l, g1, _⟩ := read_fin hy
  rw [iv_signed h1, iv_signed g1] at hb ⊢
  rw [Int.sub_eq_add_neg, ← signed_not] at hb ⊢
  obtain ⟨d, e, f, g⟩ := sum_spec hb
  refine ⟨D.write d, ?_, f, g⟩
  unfold fsub Format.sub
  rw [h1, g1]
  show Option.map _ (Datum.sum _ (.number (!t) n _)) = _
  rw [e]; rfl

/-- Order. -/
theorem order_spec {x y : Nat} (hx : Fnt x) (hy : Fnt y) : D.order x y = some (compare (iv x) (iv y)) := by
  obtain ⟨s, m, k, h1, _⟩ := read_fin hx
  obtain ⟨t, n, l, g1, _⟩ := read_fin hy
  rw [iv_signed h1, iv_signed g1]
  unfold Format.order
  rw [h1, g1]
  simp only [Datum.order]
  have key : ∀ (a b : Int) (j : Nat), compare a b = compare (a * 2 ^ j) (b * 2 ^ j) := by
    intro a b j
    have hp := pow_pos_int j
    have e1 : a < b ↔ a * 2 ^ j < b * 2 ^ j := ⟨fun h => Int.mul_lt_mul_of_pos_right h hp, fun h => Int.lt_of_mul_lt_mul_right h (Int.le_of_lt hp)⟩
    have e2 : a = b ↔ a * 2 ^ j = b * 2 ^ j := ⟨fun h => by rw [h], fun h => Int.eq_of_mul_eq_mul_right (by omega) h⟩
    simp only [compare, compareOfLessAndEq, e1, e2]
  by_cases hkl : k ≤ l
  · rw [show (min ((k : Int) - 1074) ((l : Int) - 1074)) = (k : Int) - 1074 from by omega]
    rw [show ((k : Int) - 1074 - ((k : Int) - 1074)).toNat = 0 from by omega, show ((l : Int) - 1074 - ((k : Int) - 1074)).toNat = l - k from by omega]
    rw [key _ _ k, ← shl_scale, ← shl_scale, show 0 + k = k from by omega, show l - k + k = l from by omega]
  · rw [show (min ((k : Int) - 1074) ((l : Int) - 1074)) = (l : Int) - 1074 from by omega]
    rw [show ((l : Int) - 1074 - ((l : Int) - 1074)).toNat = 0 from by omega, show ((k : Int) - 1074 - ((l : Int) - 1074)).toNat = k - l from by omega]
    rw [key _ _ l, ← shl_scale, ← shl_scale, show 0 + l = l from by omega, show k - l + l = k from by omega]

/-- The product of two: units of 2^-2148, rounded. -/
theorem fmul_spec {x y : Nat} (hx : Fnt x) (hy : Fnt y) (hb : (iv x * iv y).natAbs < 2 ^ (Bt + U)) :
    ∃ z, fmul x y = some z ∧ Fnt z ∧ (iv z).natAbs = rns U (iv x * iv y).natAbs ∧ ((0 ≤ iv x * iv y → 0 ≤ iv z) ∧ (iv x * iv y ≤ 0 → iv z ≤ 0)) := by
  obtain ⟨s, m, k, h1, _⟩ := read_fin hx
  obtain ⟨t, n, l, g1, _⟩ := read_fin hy
  rw [iv_signed h1, iv_signed g1] at hb ⊢
  have hN : (signed s m k * signed t n l).natAbs = (m * n) * 2 ^ ((k : Int) - 1074 + ((l : Int) - 1074) + 1074 + (U : Nat)).toNat := by
    rw [show ((k : Int) - 1074 + ((l : Int) - 1074) + 1074 + (U : Nat)).toNat = k + l from by have := U_eq; omega, Int.natAbs_mul]
    have e : ∀ (s : Bool) (m k : Nat), (signed s m k).natAbs = m * 2 ^ k := by
      intro s m k
      unfold signed
      cases s <;> simp [Nat.shiftLeft_eq] <;> rfl
    rw [e, e, Nat.pow_add, Nat.mul_assoc, Nat.mul_assoc, Nat.mul_left_comm (2 ^ k)]
  have hsp := nearest_spec (s ^^ t) (m * n) ((k : Int) - 1074 + ((l : Int) - 1074)) U _ (by have := U_eq; omega) hN hb
  refine ⟨D.nearest (s ^^ t) (m * n) ((k : Int) - 1074 + ((l : Int) - 1074)), ?_, hsp.1, ?_, ?_⟩
  · unfold fmul Format.mul
    rw [h1, g1]; rfl
  · rw [hsp.2]
    cases (s ^^ t) <;> simp
  · rw [hsp.2]
    have esg : signed s m k * signed t n l = (if (s ^^ t) then -1 else 1) * ((signed s m k * signed t n l).natAbs : Int) := by
      rw [hN, show ((k : Int) - 1074 + ((l : Int) - 1074) + 1074 + (U : Nat)).toNat = k + l from by have := U_eq; omega, signed_eq, signed_eq]
      have em : ((m * n * 2 ^ (k + l) : Nat) : Int) = (m : Int) * n * (2 ^ k * 2 ^ l) := by rw [Int.natCast_mul, Int.natCast_mul]; simp [Int.pow_add]
      rw [em]
      cases s <;> cases t <;> simp [Int.neg_mul, Int.mul_neg, Int.mul_assoc, Int.mul_left_comm]
    cases hst : (s ^^ t)
    · rw [hst] at esg
      simp only [Bool.false_eq_true, if_false] at esg ⊢
      refine ⟨fun _ => by omega, fun h => ?_⟩
      have : (signed s m k * signed t n l).natAbs = 0 := by omega
      rw [this]; simp [rns, ce]
    · rw [hst] at esg
      simp only [if_true] at esg ⊢
      refine ⟨fun h => ?_, fun _ => by omega⟩
      have : (signed s m k * signed t n l).natAbs = 0 := by omega
      rw [this]; simp [rns, ce]

theorem rns_mul (s M : Nat) : rns s (M * 2 ^ s) = rn M := by
  by_cases h0 : M = 0
  · subst h0; simp [rns, rn, ce]
  · unfold rns rn
    have e : lvs s (M * 2 ^ s) = lev M + s := by unfold lvs lev; rw [log2_shift _ _ h0]; omega
    rw [e, ce_up, Nat.add_sub_cancel]

/-- A product that is a whole number of least units. -/
theorem fmul_whole {x y : Nat} {p : Int} (hx : Fnt x) (hy : Fnt y) (hp : iv x * iv y = p * 2 ^ U) (hb : p.natAbs < 2 ^ Bt) :
    ∃ z, fmul x y = some z ∧ Fnt z ∧ iv z = rnd p := by
  have e : (iv x * iv y).natAbs = p.natAbs * 2 ^ U := by
    rw [hp, Int.natAbs_mul, Int.natAbs_pow]; rfl
  obtain ⟨z, h1, h2, h3, h4, h5⟩ := fmul_spec hx hy (by rw [e, Nat.pow_add]; exact Nat.mul_lt_mul_of_pos_right hb (Nat.two_pow_pos _))
  refine ⟨z, h1, h2, ?_⟩
  rw [e, rns_mul] at h3
  rw [hp] at h4 h5
  unfold rnd
  have hq := pow_pos_int U
  by_cases hn : p < 0
  · rw [if_pos hn]
    have := h5 (by have := Int.mul_le_mul_of_nonneg_right (show p ≤ 0 from by omega) (Int.le_of_lt hq); rwa [Int.zero_mul] at this)
    omega
  · rw [if_neg hn]
    have := h4 (Int.mul_nonneg (by omega) (Int.le_of_lt hq))
    omega

end Fl
