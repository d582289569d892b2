/- The contracts: a long number's digits. -/
import Derived.Test.YtnpkblidlmkagaaW17
import Derived.BigRegion
set_option linter.unusedSimpArgs false
set_option linter.unusedVariables false
namespace Go.Proofs.Ytnpkblidlmkagaa
open Go.RowKit Fl

theorem val_upd_above (f : Nat → Int) (j : Nat) (v : Int) : ∀ n, n ≤ j → val (upd f j v) n = val f n
  | 0, _ => rfl
  | n + 1, h => by
    show val (upd f j v) n + upd f j v n * _ = val f n + f n * _
    rw [val_upd_above f j v n (by omega)]
    unfold upd
    rw [if_neg (by omega)]

/-- Digits from 0 to 2^30 - 1. -/
def Dig (g : Nat → Int) : Prop := ∀ i, 0 ≤ g i ∧ g i < 1073741824

theorem Dig.set {g : Nat → Int} (h : Dig g) (j : Nat) (v : Int) : Dig (upd g j (v % 1073741824)) := by
  intro i
  unfold upd
  split
  · omega
  · exact h i

theorem dig_next (f g : Nat → Int) (k : Nat) (c : Int) (h : c * 2 ^ (30 * k) + val g k = val f k) :
    (f k + c) / 1073741824 * 2 ^ (30 * (k + 1)) + val (upd g k ((f k + c) % 1073741824)) (k + 1) = val f (k + 1) := by
  show _ + (val (upd g k ((f k + c) % 1073741824)) k + upd g k ((f k + c) % 1073741824) k * 2 ^ (30 * k)) = val f k + f k * 2 ^ (30 * k)
  rw [val_upd_above _ _ _ _ (Nat.le_refl _), ← h]
  have e : upd g k ((f k + c) % 1073741824) k = (f k + c) % 1073741824 := by simp [upd]
  have e30 : (2 : Int) ^ 30 = 1073741824 := by decide
  rw [e, show 30 * (k + 1) = 30 + 30 * k from by omega, Int.pow_add, e30, ← Int.mul_assoc]
  obtain ⟨p, hp⟩ : ∃ p : Int, p = 2 ^ (30 * k) := ⟨_, rfl⟩
  rw [← hp]
  have := Int.emod_add_mul_ediv (f k + c) 1073741824
  calc (f k + c) / 1073741824 * 1073741824 * p + (val g k + (f k + c) % 1073741824 * p) = ((f k + c) % 1073741824 + 1073741824 * ((f k + c) / 1073741824)) * p + val g k := by
        rw [Int.add_mul, Int.mul_comm ((f k + c) / 1073741824) 1073741824]; omega
    _ = _ := by rw [this, Int.add_mul]; omega

theorem dig_lt (g : Nat → Int) (h : Dig g) : ∀ k, 0 ≤ val g k ∧ val g k < 2 ^ (30 * k)
  | 0 => by simp [val]
  | k + 1 => by
    obtain ⟨a, b⟩ := dig_lt g h k
    have hk := h k
    have hp := pow_pos_int (30 * k)
    show 0 ≤ val g k + g k * 2 ^ (30 * k) ∧ val g k + g k * 2 ^ (30 * k) < _
    have e30 : (2 : Int) ^ 30 = 1073741824 := by decide
    rw [show 30 * (k + 1) = 30 + 30 * k from by omega, Int.pow_add, e30]
    obtain ⟨p, hp'⟩ : ∃ p : Int, p = 2 ^ (30 * k) := ⟨_, rfl⟩
    rw [← hp'] at hp b ⊢
    have h1 : 0 ≤ g k * p := Int.mul_nonneg hk.1 (by omega)
    have h2 : g k * p ≤ 1073741823 * p := Int.mul_le_mul_of_nonneg_right (by omega) (by omega)
    omega

/-- The digits turned. -/
theorem turn_next (f g : Nat → Int) (k : Nat) (m : Int) (hg : Dig g) (h : val f k + m * 2 ^ (30 * k) = 2 ^ (30 * k) - val g k) (hfg : f k = g k) :
    val (upd f k ((1073741823 - f k + m) % 1073741824)) (k + 1) + (1073741823 - f k + m) / 1073741824 * 2 ^ (30 * (k + 1)) = 2 ^ (30 * (k + 1)) - val g (k + 1) := by
  show val (upd f k ((1073741823 - f k + m) % 1073741824)) k + upd f k ((1073741823 - f k + m) % 1073741824) k * 2 ^ (30 * k) + _ = _ - (val g k + g k * 2 ^ (30 * k))
  rw [val_upd_above _ _ _ _ (Nat.le_refl _)]
  have e : upd f k ((1073741823 - f k + m) % 1073741824) k = (1073741823 - f k + m) % 1073741824 := by simp [upd]
  have e30 : (2 : Int) ^ 30 = 1073741824 := by decide
  rw [e, show 30 * (k + 1) = 30 + 30 * k from by omega, Int.pow_add, e30, ← Int.mul_assoc, ← hfg]
  obtain ⟨p, hp⟩ : ∃ p : Int, p = 2 ^ (30 * k) := ⟨_, rfl⟩
  rw [← hp] at h ⊢
  obtain ⟨x, hx⟩ : ∃ x, x = 1073741823 - f k + m := ⟨_, rfl⟩
  have e1 : f k = 1073741823 + m - x := by omega
  rw [← hx, e1]
  have := Int.emod_add_mul_ediv x 1073741824
  have e2 : x % 1073741824 * p + x / 1073741824 * 1073741824 * p = x * p := by
    rw [← Int.add_mul, Int.mul_comm (x / 1073741824)]
    rw [this]
  have e3 : (1073741823 + m - x) * p = 1073741823 * p + m * p - x * p := by rw [Int.sub_mul, Int.add_mul]
  omega

theorem value_plus (f g : Nat → Int) (hg : Dig g) (h : 0 * 2 ^ (30 * 110) + val g 110 = val f 110) : val g 110 = (val f 110).natAbs := by
  have := (dig_lt g hg 110).1
  omega

theorem value_minus (f g : Nat → Int) (c : Int) (n : Nat) (hg : Dig g) (h : c * 2 ^ (30 * n) + val g n = val f n) (h0 : c ≠ 0) (hlt : (val f n).natAbs < 2 ^ (30 * n)) :
    2 ^ (30 * n) - val g n = (val f n).natAbs ∧ 0 < val g n := by
  obtain ⟨h1, h2⟩ := dig_lt g hg n
  have e : ((2 ^ (30 * n) : Nat) : Int) = 2 ^ (30 * n) := Int.natCast_pow _ _
  obtain ⟨p, hp⟩ : ∃ p : Int, p = 2 ^ (30 * n) := ⟨_, rfl⟩
  have hpp : 0 < p := hp ▸ pow_pos_int _
  obtain ⟨q, hq⟩ : ∃ q : Nat, q = 2 ^ (30 * n) := ⟨_, rfl⟩
  rw [← hp] at h h2 e ⊢
  rw [← hq] at hlt e
  have : c = -1 := by
    rcases Int.lt_trichotomy c 0 with hc | hc | hc
    · rcases (by omega : c < -1 ∨ -1 ≤ c) with h3 | h3
      · have : c * p ≤ -2 * p := Int.mul_le_mul_of_nonneg_right (by omega) (by omega)
        omega
      · omega
    · exact absurd hc h0
    · have : 1 * p ≤ c * p := Int.mul_le_mul_of_nonneg_right (by omega) (by omega)
      omega
  subst this
  omega

theorem value_turned (f g h : Nat → Int) (m : Int) (hh : Dig h) (hg : Dig g) (h1 : 0 ≤ m) (h2 : m ≤ 1) (hv : val h 110 + m * 2 ^ (30 * 110) = 2 ^ (30 * 110) - val g 110)
    (hr : 2 ^ (30 * 110) - val g 110 = (val f 110).natAbs ∧ 0 < val g 110) : val h 110 = (val f 110).natAbs := by
  have := (dig_lt h hh 110).1
  obtain ⟨p, hp⟩ : ∃ p : Int, p = 2 ^ (30 * 110) := ⟨_, rfl⟩
  rw [← hp] at hv hr
  obtain rfl | rfl : m = 0 ∨ m = 1 := by omega
  · omega
  · omega

def zs110 : Array Value := Array.replicate 110 (.int .i64 0)

theorem mk110 (w : World) : (Instr.makeSlice 49 (.int .i64 110) (.int .i64 110)).run Try.prog w = .ok (.slice (some ⟨w.heap.size, 0, none⟩) 110 110) (w.alloc (.cells zs110 2)) := by kernel_rfl

theorem digs_new (w : World) : Limbs (w.alloc (.cells zs110 2)) w.heap.size (fun _ => 0) := by
  intro i hi
  refine ⟨?_, World.frozen?_alloc_new _ _ _ _⟩
  rw [World.cell?_alloc_new, zs110]
  simp [hi]

set_option maxRecDepth 100000 in
set_option maxHeartbeats 1000000 in
theorem value_any (b : Nat) (f : Nat → Int) (w : World) (hl : Limbs w b f) (B : Nat) (hB : B ≤ 2 ^ 61) (hf : Bnd f B) (hlt : (val f 110).natAbs < 2 ^ (30 * 110)) :
    Calls Try.prog 79 #[.pointer (some ⟨b, 0, none⟩)] w fun z w' => ∃ (s : Bool) (c : Nat) (g : Nat → Int), z = .returned (.tuple #[.bool s, .slice (some ⟨c, 0, none⟩) 110 110]) ∧ Below w.heap.size w w' ∧ Limbs w' c g ∧ Dig g ∧ val g 110 = (val f 110).natAbs := by
  have hmk := mk110
  have HLT := Lib.hid hlt
  clear hlt
  go_enter Try.func79, Try.ntmps79
  go_wp2
  go_loopw [5, 6] (fun x i wr => ∃ (k : Nat) (c : Int) (g : Nat → Int), k ≤ 110 ∧ i = .int .i64 k ∧ x = .int .i64 c ∧ -1152921504606846976 ≤ c ∧ c ≤ 1152921504606846976 ∧ Limbs wr w.heap.size g ∧ Below w.heap.size w wr ∧ Hid (Dig g) ∧ Hid (c * 2 ^ (30 * k) + val g k = val f k))
    (fun _ i _ => 110 - (intOf i).toNat)
  case atStart => exact ⟨0, 0, fun _ => 0, by omega, rfl, rfl, by omega, by omega, digs_new w, (Below.refl _ w).alloc (Nat.le_refl _) _, Lib.hid (fun _ => by simp), Lib.hid (by simp [val])⟩
  case round =>
    obtain ⟨k, c, g, hk, rfl, rfl, hc1, hc2, hlr, hbr, hdr, hcv⟩ := hrel
    by_cases hlt : k < 110
    · have c1 := ((hl.keep hbr) k hlt).1
      have b1 := hf k
      have b2 : (B : Int) ≤ 2305843009213693952 := by omega
      have k1 : (k : Int) < 110 := by omega
      have a1 := i64_low30 (f k + c)
      have c3 := (hlr k hlt).1
      have c4 := (hlr k hlt).2
      have hl2 := hlr.set hlt ((f k + c) % 1073741824)
      have hb2 := hbr.setCell (p := ⟨w.heap.size, k, none⟩) (Nat.le_refl _) (.int .i64 ((f k + c) % 1073741824))
      have HN := Lib.hid (dig_next f g k c hcv.out)
      have HD := Lib.hid (hdr.out.set k (f k + c))
      clear hf
      go_wp2
      exact ⟨⟨k + 1, _, _, by omega, by go_num, rfl, by omega, by omega, hl2, hb2, HD, HN⟩, by simp [intOf]; omega⟩
    · obtain rfl : k = 110 := by omega
      by_cases h0 : c = 0
      · subst h0
        have HV := Lib.hid (value_plus f g hdr.out hcv.out)
        clear hf
        go_wp2
        go_ret2
        exact ⟨_, _, g, rfl, hbr, hlr, hdr.out, HV.out⟩
      · have t0 : (c == 0) = false := by simpa using h0
        have HV := Lib.hid (value_minus f g c 110 hdr.out hcv.out h0 HLT.out)
        clear hf hcv HLT hl
        go_wp2
        go_loopw [8, 9] (fun x i wr => ∃ (k : Nat) (m : Int) (h : Nat → Int), k ≤ 110 ∧ i = .int .i64 k ∧ x = .int .i64 m ∧ 0 ≤ m ∧ m ≤ 1 ∧ Limbs wr w.heap.size h ∧ Below w.heap.size w wr ∧ Hid (Dig h) ∧ Hid (val h k + m * 2 ^ (30 * k) = 2 ^ (30 * k) - val g k) ∧ Hid (∀ i, k ≤ i → h i = g i))
          (fun _ i _ => 110 - (intOf i).toNat)
        case atStart => exact ⟨0, 1, g, by omega, rfl, rfl, by omega, by omega, hlr, hbr, hdr, Lib.hid (by simp [val]), Lib.hid (fun _ _ => rfl)⟩
        case round =>
          obtain ⟨k, m, h, hk, rfl, rfl, hc1, hc2, hlr, hbr, hdh, hcv, hsame⟩ := hrel
          by_cases hlt : k < 110
          · have k1 : (k : Int) < 110 := by omega
            have b1 := hdh.out k
            have a1 := i64_low30 (1073741823 - h k + m)
            have c3 := (hlr k hlt).1
            have c4 := (hlr k hlt).2
            have hl2 := hlr.set hlt ((1073741823 - h k + m) % 1073741824)
            have hb2 := hbr.setCell (p := ⟨w.heap.size, k, none⟩) (Nat.le_refl _) (.int .i64 ((1073741823 - h k + m) % 1073741824))
            have HN := Lib.hid (turn_next h g k m hdr.out hcv.out (hsame.out k (Nat.le_refl _)))
            have HD := Lib.hid (hdh.out.set k (1073741823 - h k + m))
            have HS : Hid (∀ i, k + 1 ≤ i → upd h k ((1073741823 - h k + m) % 1073741824) i = g i) := Lib.hid (fun i hi => by
              unfold upd
              rw [if_neg (by omega)]
              exact hsame.out i (by omega))
            go_wp2
            exact ⟨⟨k + 1, _, _, by omega, by go_num, rfl, by omega, by omega, hl2, hb2, HD, HN, HS⟩, by simp [intOf]; omega⟩
          · obtain rfl : k = 110 := by omega
            go_wp2
            go_ret2
            exact ⟨_, _, h, rfl, hbr, hlr, hdh.out, value_turned f g h m hdh.out hdr.out hc1 hc2 hcv.out HV.out⟩
end Go.Proofs.Ytnpkblidlmkagaa
