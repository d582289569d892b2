/- The contracts: a long number's size; a float's top. -/
import Derived.Test.YtnpkblidlmkagaaW18
set_option linter.unusedSimpArgs false
set_option linter.unusedVariables false
namespace Go.Proofs.Ytnpkblidlmkagaa
open Go.RowKit Fl

theorem val_zeros (g : Nat → Int) (k : Nat) : ∀ d, (∀ i, k ≤ i → i < k + d → g i = 0) → val g (k + d) = val g k
  | 0, _ => rfl
  | d + 1, h => by
    show val g (k + d) + g (k + d) * _ = _
    rw [val_zeros g k d (fun i h1 h2 => h i h1 (by omega)), h (k + d) (by omega) (by omega)]
    simp

theorem size_fact (g : Nat → Int) (V i n : Nat) (hi : i < 110) (hg : Dig g) (hv : val g 110 = V) (hz : ∀ j, i + 1 ≤ j → j < 110 → g j = 0) (h0 : g i ≠ 0)
    (hn : n = 0 ∨ 2 ^ (n - 1) ≤ (g i).toNat) (he : (g i).toNat / 2 ^ n = 0) : ∀ m : Nat, V < 2 ^ m → 30 * (i : Int) - 1200 + n ≤ m - 1200 := by
  intro m hm
  have e1 := val_zeros g (i + 1) (110 - (i + 1)) (fun j h1 h2 => hz j h1 (by omega))
  rw [show i + 1 + (110 - (i + 1)) = 110 from by omega, hv] at e1
  have e2 : val g (i + 1) = val g i + g i * 2 ^ (30 * i) := rfl
  have e3 := (dig_lt g hg i).1
  have h3 := (hg i).1
  have n0 : n ≠ 0 := by
    intro h
    subst h
    simp at he
    omega
  have hn1 : 2 ^ (n - 1) ≤ (g i).toNat := by omega
  have e4 : ((2 ^ (30 * i) : Nat) : Int) = 2 ^ (30 * i) := Int.natCast_pow _ _
  have e5 : (g i).toNat * 2 ^ (30 * i) ≤ V := by
    have : ((g i).toNat : Int) * ((2 ^ (30 * i) : Nat) : Int) ≤ V := by
      rw [e4, Int.toNat_of_nonneg h3]
      omega
    exact_mod_cast this
  have e6 : 2 ^ (n - 1) * 2 ^ (30 * i) ≤ (g i).toNat * 2 ^ (30 * i) := Nat.mul_le_mul_right _ hn1
  rw [← Nat.pow_add] at e6
  have e7 : 2 ^ (n - 1 + 30 * i) < 2 ^ m := by omega
  have := (Nat.pow_lt_pow_iff_right (by omega : 1 < 2)).1 e7
  omega

set_option maxRecDepth 100000 in
set_option maxHeartbeats 1000000 in
theorem size_any (b : Nat) (f : Nat → Int) (w : World) (hl : Limbs w b f) (B : Nat) (hB : B ≤ 2 ^ 61) (hf : Bnd f B) (hlt : (val f 110).natAbs < 2 ^ (30 * 110)) :
    Calls Try.prog 37 #[.pointer (some ⟨b, 0, none⟩)] w fun z w' => ∃ K : Int, z = .returned (.int .i64 K) ∧ Below w.heap.size w w' ∧ (∀ m : Nat, (val f 110).natAbs < 2 ^ m → K ≤ m - 1200) := by
  have hc := value_any b f w hl B hB hf hlt
  obtain ⟨V, hV⟩ : ∃ V, V = (val f 110).natAbs := ⟨_, rfl⟩
  rw [← hV] at hc ⊢
  have HC := Lib.hid hc
  clear hc hl hB hf hlt hV
  go_enter Try.func37, Try.ntmps37
  go_wp2_with fail
  refine HC.out.mono ?_
  rintro z w1 ⟨s, c, g, rfl, hb, hlm, hd, hv⟩
  have HD := Lib.hid hd
  have HV := Lib.hid hv
  clear hd hv
  go_wp2
  go_loop [5] (fun x => ∃ k : Nat, k ≤ 110 ∧ x = .int .i64 ((k : Int) - 1) ∧ Hid (∀ j, k ≤ j → j < 110 → g j = 0)) (fun x => (intOf x + 1).toNat)
  case atStart => exact ⟨110, by omega, rfl, Lib.hid (fun j h1 h2 => by omega)⟩
  case round =>
    obtain ⟨k, hk, rfl, hz⟩ := hrel
    rcases k with _ | i
    · go_wp2
      go_ret
      exact ⟨_, rfl, hb, fun m hm => by omega⟩
    · have e : ((i + 1 : Nat) : Int) - 1 = i := by omega
      rw [e]
      clear e
      have c1 := (hlm i (by omega)).1
      have hi : i < 110 := by omega
      have i1 : (i : Int) < 110 := by omega
      obtain ⟨v, hv⟩ : ∃ v, v = g i := ⟨_, rfl⟩
      have hgi := HD.out i
      rw [← hv] at c1 hgi
      by_cases h0 : v = 0
      · have HN : Hid (∀ j, i ≤ j → j < 110 → g j = 0) := Lib.hid (fun j h1 h2 => by
          by_cases e : j = i
          · subst e; omega
          · exact hz.out j (by omega) h2)
        subst h0
        clear hz
        go_wp2
        go_round
        case rel => exact ⟨i, by omega, by go_num, HN⟩
        case measure => simp [intOf]
      · have t0 : (v == 0) = false := by simpa using h0
        have HVV := Lib.hid hv
        have h00 : 0 < v := by omega
        clear hv
        go_wp2
        go_loop [6, 7] (fun x y => ∃ (n : Nat) (k q : Int), x = .int .i64 k ∧ y = .int .i64 q ∧ n ≤ 64 ∧ k = 30 * (i : Int) - 1200 + n ∧ q = ((v.toNat / 2 ^ n : Nat) : Int) ∧ Hid (n = 0 ∨ 2 ^ (n - 1) ≤ v.toNat)) (fun x y => (intOf y).toNat)
        case atStart => exact ⟨0, _, _, rfl, rfl, by omega, by omega, by simp; omega, Lib.hid (Or.inl rfl)⟩
        case round =>
          obtain ⟨n, k, q, rfl, rfl, hn, hk, hq, hor⟩ := hrel
          by_cases hq0 : 0 < q
          · have hge : 2 ^ n ≤ v.toNat := by
              rcases Nat.lt_or_ge v.toNat (2 ^ n) with h | h
              · rw [Nat.div_eq_of_lt h] at hq; omega
              · exact h
            have hn2 : n < 63 := by
              have : 2 ^ n < 2 ^ 63 := by omega
              exact (Nat.pow_lt_pow_iff_right (by omega : 1 < 2)).1 this
            have hqq : q / 2 = ((v.toNat / 2 ^ (n + 1) : Nat) : Int) := by
              rw [Nat.pow_succ, ← Nat.div_div_eq_div_mul, hq]
              omega
            have hqb : q ≤ v := by
              have := Nat.div_le_self v.toNat (2 ^ n)
              omega
            have HQ := Lib.hid hqq
            have HO : Hid (n + 1 = 0 ∨ 2 ^ (n + 1 - 1) ≤ v.toNat) := Lib.hid (Or.inr (by simpa using hge))
            clear hq hqq hge hor
            go_wp2
            go_round
            case rel => exact ⟨n + 1, _, q / 2, rfl, by go_num, by omega, by omega, HQ.out, HO⟩
            case measure => simp [intOf]; omega
          · have HR : Hid (∀ m : Nat, V < 2 ^ m → k ≤ m - 1200) := Lib.hid (by
              intro m hm
              have e0 : v.toNat / 2 ^ n = 0 := by
                have : (0 : Int) ≤ ((v.toNat / 2 ^ n : Nat) : Int) := Int.natCast_nonneg _
                omega
              have hvv := HVV.out
              have := size_fact g V i n hi HD.out HV.out (fun j h1 h2 => hz.out j h1 h2) (by omega) (by rw [← hvv]; exact hor.out) (by rw [← hvv]; exact e0) m hm
              omega)
            clear hor hk hq
            go_wp2
            go_ret
            exact ⟨_, rfl, hb, HR.out⟩
end Go.Proofs.Ytnpkblidlmkagaa
