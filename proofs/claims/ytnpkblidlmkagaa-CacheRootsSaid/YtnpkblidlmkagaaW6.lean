/- The contracts: is a long number 0; small functions of the laws of layers 3 and 4. -/
import Derived.Test.YtnpkblidlmkagaaW5
set_option linter.unusedSimpArgs false
set_option linter.unusedVariables false
namespace Go.Proofs.Ytnpkblidlmkagaa
open Go.RowKit Fl

theorem val_tail (f : Nat → Int) (k : Nat) : ∀ d, ∃ q : Int, val f (k + d) = val f k + q * 2 ^ (30 * k)
  | 0 => ⟨0, by simp⟩
  | d + 1 => by
    obtain ⟨q, hq⟩ := val_tail f k d
    refine ⟨q + f (k + d) * 2 ^ (30 * d), ?_⟩
    show val f (k + d) + f (k + d) * 2 ^ (30 * (k + d)) = _
    rw [hq, Int.add_mul, Int.mul_assoc (f (k + d)), ← Int.pow_add, show 30 * d + 30 * k = 30 * (k + d) from by omega]
    omega

theorem zero_no (f : Nat → Int) (k : Nat) (c : Int) (hk : k < 110) (hc : c * 2 ^ (30 * k) = val f k) (hv : (f k + c) % 1073741824 ≠ 0) : val f 110 ≠ 0 := by
  obtain ⟨q, hq⟩ := val_tail f (k + 1) (110 - (k + 1))
  rw [show k + 1 + (110 - (k + 1)) = 110 from by omega] at hq
  rw [hq]
  show val f k + f k * 2 ^ (30 * k) + q * 2 ^ (30 * (k + 1)) ≠ 0
  rw [← hc, show 30 * (k + 1) = 30 + 30 * k from by omega, Int.pow_add, ← Int.add_mul, ← Int.mul_assoc, ← Int.add_mul]
  intro h0
  have hp := pow_pos_int (30 * k)
  rcases Int.mul_eq_zero.1 h0 with h | h
  · have e30 : (2 : Int) ^ 30 = 1073741824 := by decide
    rw [e30] at h
    omega
  · omega

theorem zero_next (f : Nat → Int) (k : Nat) (c : Int) (hc : c * 2 ^ (30 * k) = val f k) (hv : (f k + c) % 1073741824 = 0) : (f k + c) / 1073741824 * 2 ^ (30 * (k + 1)) = val f (k + 1) := by
  show _ = val f k + f k * 2 ^ (30 * k)
  rw [← hc, ← Int.add_mul, show 30 * (k + 1) = 30 + 30 * k from by omega, Int.pow_add, ← Int.mul_assoc]
  congr 1
  have e30 : (2 : Int) ^ 30 = 1073741824 := by decide
  rw [e30]
  omega

theorem zero_end (f : Nat → Int) (c : Int) (hc : c * 2 ^ (30 * 110) = val f 110) : (c == 0) = decide (val f 110 = 0) := by
  have hp := pow_pos_int (30 * 110)
  rw [← hc, Bool.eq_iff_iff]
  simp only [beq_iff_eq, decide_eq_true_eq]
  constructor
  · intro h; rw [h, Int.zero_mul]
  · intro h
    rcases Int.mul_eq_zero.1 h with h | h
    · exact h
    · omega

set_option maxRecDepth 100000 in
set_option maxHeartbeats 1000000 in
theorem zero_any (b : Nat) (f : Nat → Int) (w : World) (hl : Limbs w b f) (B : Nat) (hB : B ≤ 2 ^ 61) (hf : Bnd f B) :
    Calls Try.prog 32 #[.pointer (some ⟨b, 0, none⟩)] w fun z w' => z = .returned (.bool (decide (val f 110 = 0))) ∧ w = w' := by
  obtain ⟨V, hV⟩ : ∃ V, V = decide (val f 110 = 0) := ⟨_, rfl⟩
  rw [← hV]
  have HV := Lib.hid hV
  clear hV
  go_enter Try.func32, Try.ntmps32
  go_wp2
  go_loop [3, 4] (fun x i => ∃ (k : Nat) (c : Int), k ≤ 110 ∧ i = .int .i64 k ∧ x = .int .i64 c ∧ -1152921504606846976 ≤ c ∧ c ≤ 1152921504606846976 ∧ Hid (c * 2 ^ (30 * k) = val f k))
    (fun _ i => 110 - (intOf i).toNat)
  case atStart => exact ⟨0, 0, by omega, rfl, rfl, by omega, by omega, Lib.hid (by simp [val])⟩
  case round =>
    obtain ⟨k, c, hk, rfl, rfl, hc1, hc2, hcv⟩ := hrel
    by_cases hlt : k < 110
    · have c1 := (hl k hlt).1
      have b1 := hf k
      have b2 : (B : Int) ≤ 2305843009213693952 := by omega
      have k1 : (k : Int) < 110 := by omega
      obtain ⟨v, hv⟩ : ∃ v, v = f k + c := ⟨_, rfl⟩
      have a1 := i64_low30 (f k + c)
      by_cases h0 : (f k + c) % 1073741824 = 0
      · have t0 : ((f k + c) % 1073741824 != 0) = false := by simpa using h0
        have HN := Lib.hid (zero_next f k c hcv.out h0)
        clear hv h0
        go_wp2
        go_round
        case rel => exact ⟨k + 1, (f k + c) / 1073741824, by omega, by go_num, rfl, by omega, by omega, HN⟩
        case measure => simp [intOf]; omega
      · have t0 : ((f k + c) % 1073741824 != 0) = true := by simpa using h0
        have HN := Lib.hid (zero_no f k c hlt hcv.out h0)
        clear hv h0
        go_wp2
        go_ret
        refine ⟨?_, rfl⟩
        rw [HV.out, decide_eq_false HN.out]
        rfl
    · obtain rfl : k = 110 := by omega
      have HE := Lib.hid (zero_end f c hcv.out)
      go_wp2
      go_ret
      refine ⟨?_, rfl⟩
      rw [HV.out, ← HE.out]
      rfl

/-- A word made of the sign and fraction of u and the exponent e. -/
def mkw (u e : Nat) : Nat := u / 2 ^ 63 * 2 ^ 63 + e * 2 ^ 52 + u % 2 ^ 52

theorem mkw_spec (u e : Nat) (hu : u < 2 ^ 64) (h1 : 1 ≤ e) (h2 : e ≤ 2046) :
    Fnt (mkw u e) ∧ iv (mkw u e) = (if u / 2 ^ 63 = 1 then -1 else 1) * ((2 ^ 52 + u % 2 ^ 52 : Nat) : Int) * 2 ^ (e - 1) := by
  have hm : u % 2 ^ 52 < 2 ^ 52 := Nat.mod_lt _ (by decide)
  have hs : u / 2 ^ 63 = 0 ∨ u / 2 ^ 63 = 1 := by omega
  have hlt : (e - 1) * 2 ^ 52 + (2 ^ 52 + u % 2 ^ 52) < 2047 * 2 ^ 52 := by omega
  have hw : mkw u e = D.word (u / 2 ^ 63 == 1) ((e - 1) * 2 ^ 52 + (2 ^ 52 + u % 2 ^ 52)) := by
    unfold mkw Ieee.Format.word
    rw [D_sign]
    rcases hs with hs | hs <;> rw [hs] <;> simp <;> omega
  rw [hw]
  refine ⟨fin_word hlt, ?_⟩
  rw [iv_word hlt (by omega) (by omega)]
  rcases hs with hs | hs <;> rw [hs] <;> rfl

theorem or_words (u e : Nat) (hu : u < 2 ^ 64) (he : e < 2048) (a : Int) (ha : a = ((u % 2 ^ 52 : Nat) : Int)) :
    bits .or .u64 (bits .or .u64 ((u : Int) / 9223372036854775808 * 9223372036854775808) ((e : Int) * 4503599627370496)) a = ((mkw u e : Nat) : Int) := by
  have hs : u / 9223372036854775808 ≤ 1 := by omega
  have e1 : (u : Int) / 9223372036854775808 * 9223372036854775808 = ((u / 9223372036854775808 * 9223372036854775808 : Nat) : Int) := by simp
  have e2 : (e : Int) * 4503599627370496 = ((e * 4503599627370496 : Nat) : Int) := by simp
  rw [ha, e1, e2, u64_or_nat _ _ (by omega) (by omega), nat_join 63 _ _ (by omega) (by omega), u64_or_nat _ _ (by omega) (by omega), nat_join 52 _ _ (by omega) (by omega)]
  rfl

/-- part: a float made of any bits. -/
def partF (b L : Int) (W : Nat) : Nat :=
  let u := (b % 18446744073709551616).toNat
  if u % 2 ^ 63 = 0 then 0 else mkw u (u / 2 ^ 52 % 2048 % W + (1023 + L).toNat)

theorem wrap2_zero (u : Nat) (hu : u < 2 ^ 64) (v : Bool) (hv : v = decide (u % 2 ^ 63 = 0)) : (IntKind.u64.wrap ((u : Int) * 2) == 0) = v := by
  rw [hv, IntKind.wrap_u64, Bool.eq_iff_iff]
  simp
  omega

set_option maxRecDepth 100000 in
theorem part_any (b L : Int) (W : Nat) (w : World) (hW : 1 ≤ W) (hW2 : W ≤ 900) (hL : -500 ≤ L) (hL2 : L ≤ 0) :
    Calls Try.prog 25 #[.int .i64 b, .int .i64 L, .int .i64 W] w fun z w' => z = .returned (.float .f64 (partF b L W)) ∧ w = w' := by
  obtain ⟨u, hu⟩ : ∃ u, u = (b % 18446744073709551616).toNat := ⟨_, rfl⟩
  have hu2 : u < 2 ^ 64 := by omega
  have hub : IntKind.u64.wrap b = (u : Int) := by rw [IntKind.wrap_u64]; omega
  have hP : partF b L W = if u % 2 ^ 63 = 0 then 0 else mkw u (u / 2 ^ 52 % 2048 % W + (1023 + L).toNat) := by rw [hu]; rfl
  have HP := Lib.hid hP
  clear hP hu
  have hfrom := run_from
  by_cases h0 : u % 2 ^ 63 = 0
  · have t0 := wrap2_zero u hu2 true (by simp [h0])
    go_enter Try.func25, Try.ntmps25
    go_wp2
    go_ret
    refine ⟨?_, rfl⟩
    rw [HP.out, if_pos h0]
    rfl
  · have t0 := wrap2_zero u hu2 false (by simp [h0])
    have h2 := w2 u hu2
    obtain ⟨ex, hex⟩ : ∃ ex, ex = u / 2 ^ 52 % 2048 := ⟨_, rfl⟩
    rw [← hex] at h2
    obtain ⟨f, hf⟩ : ∃ f, f = ex % W := ⟨_, rfl⟩
    have hfW : f < W := by rw [hf]; exact Nat.mod_lt _ (by omega)
    have h3 : (ex : Int) % (W : Int) = (f : Int) := by rw [hf]; simp
    obtain ⟨e, he⟩ : ∃ e, e = f + (1023 + L).toNat := ⟨_, rfl⟩
    have h4 : (f : Int) + (1023 + L) = (e : Int) := by omega
    have he2 : e < 2048 := by omega
    have HQ := Lib.hid (or_words u e hu2 he2 _ (w12 u hu2))
    have HE : Hid (u / 2 ^ 52 % 2048 % W + (1023 + L).toNat = e) := Lib.hid (by rw [← hex, ← hf, he])
    clear hex hf he
    go_enter Try.func25, Try.ntmps25
    go_wp2
    go_ret
    refine ⟨?_, rfl⟩
    rw [HP.out, if_neg h0, HE.out]
    show Ending.returned (Value.float .f64 (bits BinOp.or IntKind.u64 (bits BinOp.or IntKind.u64 ((u : Int) / 9223372036854775808 * 9223372036854775808) ((e : Int) * 4503599627370496)) (IntKind.u64.wrap ((u : Int) * 4096) / 4096)).toNat) = _
    rw [HQ.out]
    rfl

/-- mild: a mild float made of any bits. -/
def mildF (b : Int) : Nat :=
  let u := (b % 18446744073709551616).toNat
  if u % 2 ^ 63 = 0 then u else mkw u (u / 2 ^ 52 % 2048 % 800 + 623)

set_option maxRecDepth 100000 in
theorem mild_any (b : Int) (w : World) :
    Calls Try.prog 52 #[.int .i64 b] w fun z w' => z = .returned (.float .f64 (mildF b)) ∧ w = w' := by
  obtain ⟨u, hu⟩ : ∃ u, u = (b % 18446744073709551616).toNat := ⟨_, rfl⟩
  have hu2 : u < 2 ^ 64 := by omega
  have hub : IntKind.u64.wrap b = (u : Int) := by rw [IntKind.wrap_u64]; omega
  have hP : mildF b = if u % 2 ^ 63 = 0 then u else mkw u (u / 2 ^ 52 % 2048 % 800 + 623) := by rw [hu]; rfl
  have HP := Lib.hid hP
  clear hP hu
  have hfrom := run_from
  by_cases h0 : u % 2 ^ 63 = 0
  · have t0 := wrap2_zero u hu2 true (by simp [h0])
    go_enter Try.func52, Try.ntmps52
    go_wp2
    go_ret
    refine ⟨?_, rfl⟩
    rw [HP.out, if_pos h0]
    rfl
  · have t0 := wrap2_zero u hu2 false (by simp [h0])
    have h2 := w2 u hu2
    obtain ⟨ex, hex⟩ : ∃ ex, ex = u / 2 ^ 52 % 2048 := ⟨_, rfl⟩
    rw [← hex] at h2
    obtain ⟨f, hf⟩ : ∃ f, f = ex % 800 := ⟨_, rfl⟩
    have hfW : f < 800 := by omega
    have h3 : (ex : Int) % 800 = (f : Int) := by omega
    obtain ⟨e, he⟩ : ∃ e, e = f + 623 := ⟨_, rfl⟩
    have h4 : (f : Int) + 1023 - 400 = (e : Int) := by omega
    have he2 : e < 2048 := by omega
    have HQ := Lib.hid (or_words u e hu2 he2 _ (w12 u hu2))
    have HE : Hid (u / 2 ^ 52 % 2048 % 800 + 623 = e) := Lib.hid (by rw [← hex, ← hf, he])
    clear hex hf he
    go_enter Try.func52, Try.ntmps52
    go_wp2
    go_ret
    refine ⟨?_, rfl⟩
    rw [HP.out, if_neg h0, HE.out]
    show Ending.returned (Value.float .f64 (bits BinOp.or IntKind.u64 (bits BinOp.or IntKind.u64 ((u : Int) / 9223372036854775808 * 9223372036854775808) ((e : Int) * 4503599627370496)) (IntKind.u64.wrap ((u : Int) * 4096) / 4096)).toNat) = _
    rw [HQ.out]
    rfl

end Go.Proofs.Ytnpkblidlmkagaa
