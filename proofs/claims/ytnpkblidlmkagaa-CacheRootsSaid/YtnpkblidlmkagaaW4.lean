/- The contract of the long number's Put: a number is added. -/
import Derived.Test.YtnpkblidlmkagaaW3
import Derived.BigRegion
set_option linter.unusedSimpArgs false
set_option linter.unusedVariables false
namespace Go.Proofs.Ytnpkblidlmkagaa
open Go.RowKit Fl

set_option maxRecDepth 100000 in
set_option maxHeartbeats 4000000 in
theorem put_neg (b : Nat) (m : Int) (f : Nat → Int) (w : World) (K s : Nat) (hs : s < 30) (hK : K ≤ 105) (hm : m < 0) (hm1 : -9223372036854775807 ≤ m)
    (hl : Limbs w b f) (B : Nat) (hB : B ≤ 2 ^ 61) (hf : Bnd f B) :
    Calls Try.prog 78 #[.pointer (some ⟨b, 0, none⟩), .int .i64 m, .int .i64 (30 * K + s - 1200)] w fun z w' => z = .returned (.tuple #[]) ∧ Limbs w' b (putTo true f m.natAbs s K 3) ∧ OnlyB b w w' := by
  have hK1 : (30 * (K : Int) + s) / 30 = K := by omega
  have hs1 : (30 * (K : Int) + s) % 30 = s := by omega
  have hu : IntKind.u64.wrap (-IntKind.u64.wrap m) = (m.natAbs : Int) := by
    rw [IntKind.wrap_u64, IntKind.wrap_u64]; omega
  have h64 : m.natAbs < 2 ^ 64 := by omega
  go_enter Try.func78, Try.ntmps78
  go_wp2
  clear hu
  rw [hK1, hs1]
  clear hK1 hs1
  go_loopw [10, 11] (fun x i wr => ∃ k : Nat, k ≤ 3 ∧ i = .int .i64 k ∧ x = .int .u64 ((m.natAbs / 2 ^ (30 * k) : Nat) : Int) ∧ Limbs wr b (putTo true f m.natAbs s K k) ∧ OnlyB b w wr)
    (fun _ i _ => 3 - (intOf i).toNat)
  case atStart => exact ⟨0, by omega, rfl, by simp, hl, OnlyB.refl _ _⟩
  case round =>
    obtain ⟨k, hk, rfl, rfl, hlr, hor⟩ := hrel
    by_cases hlt : k < 3
    · have hux : m.natAbs / 2 ^ (30 * k) < 2 ^ 64 := Nat.lt_of_le_of_lt (Nat.div_le_self _ _) h64
      have hbd := hf.to true m.natAbs s K hs k
      have hlim : 2 ^ 61 + k * 2 ^ 30 ≤ 2 ^ 62 := by omega
      have hpl := piece_lt m.natAbs s k hs
      have hpe : piece m.natAbs s k = m.natAbs / 2 ^ (30 * k) % 1073741824 * 2 ^ s := rfl
      obtain ⟨p, hp⟩ : ∃ p, p = piece m.natAbs s k := ⟨_, rfl⟩
      obtain ⟨lo, hlo⟩ : ∃ lo, lo = p % 1073741824 := ⟨_, rfl⟩
      obtain ⟨hi, hhi⟩ : ∃ hi, hi = p / 1073741824 := ⟨_, rfl⟩
      obtain ⟨g, hg⟩ : ∃ g, g = putTo true f m.natAbs s K k := ⟨_, rfl⟩
      rw [← hp] at hpl hpe
      rw [← hg] at hlr hbd
      obtain ⟨x, hx⟩ : ∃ x, x = m.natAbs / 2 ^ (30 * k) := ⟨_, rfl⟩
      rw [← hx] at hux hpe
      have HG := Lib.hid hg
      have HP := Lib.hid hp
      have HX := Lib.hid hx
      have a1 := u64_low30 x hux
      obtain ⟨q, hq⟩ : ∃ q, q = x % 1073741824 := ⟨_, rfl⟩
      rw [← hq] at a1 hpe
      clear hq
      have a2 : IntKind.u64.wrap ((q : Int) * 2 ^ s) = (p : Int) := by
        rw [hpe, IntKind.wrap_u64]
        have : ((2 ^ s : Nat) : Int) = 2 ^ s := by simp
        rw [← this, ← Int.natCast_mul]
        omega
      have a3 := u64_low30 p (by omega)
      rw [← hlo] at a3
      have a4 : (p : Int) / 1073741824 = hi := by omega
      have lo1 : lo < 1073741824 := by omega
      have hi1 : hi < 1073741824 := by omega
      have HLO := Lib.hid hlo
      have HHI := Lib.hid hhi
      rw [← hx]
      clear hg hp hx hpe hlo hhi
      have c1 := (hlr (K + k) (by omega)).1
      have c2 := (hlr (K + k) (by omega)).2
      have b1 := hbd (K + k)
      have b2 := hbd (K + k + 1)
      have k1 : (K : Int) + k < 110 := by omega
      have k2 : (K : Int) + k + 1 < 110 := by omega
      have hl1 := (hlr.set (j := K + k) (by omega) (g (K + k) + -(lo : Int))).drew
      have c3 := (hl1 (K + k + 1) (by omega)).1
      have c4 := (hl1 (K + k + 1) (by omega)).2
      rw [show upd g (K + k) (g (K + k) + -(lo : Int)) (K + k + 1) = g (K + k + 1) from by simp [upd]] at c3
      have hl2 := (hl1.set (j := K + k + 1) (by omega) (g (K + k + 1) + -(hi : Int))).drew
      have ho2 := ((hor.setCell (K + k) none (.int .i64 (g (K + k) + -(lo : Int)))).drew.setCell (K + k + 1) none (.int .i64 (g (K + k + 1) + -(hi : Int)))).drew
      have HL2 := Lib.hid hl2
      clear hl2 hl1 hlr hor hbd hf hl
      go_wp2
      go_region
      go_wp2
      go_region
      go_wp2
      go_roundw
      case rel =>
        refine ⟨k + 1, by omega, by go_num, ?_, ?_, ho2⟩
        · have : (m.natAbs / 2 ^ (30 * (k + 1)) : Nat) = x / 1073741824 := by
            rw [HX.out, Nat.div_div_eq_div_mul, show (1073741824 : Nat) = 2 ^ 30 from rfl, ← Nat.pow_add, show 30 * k + 30 = 30 * (k + 1) from by omega]
          rw [this]
          rfl
        · have e : putTo true f m.natAbs s K (k + 1) = upd (upd g (K + k) (g (K + k) + -(lo : Int))) (K + k + 1) (g (K + k + 1) + -(hi : Int)) := by
            show putStep true (putTo true f m.natAbs s K k) (K + k) (piece m.natAbs s k) = _
            rw [← HG.out, ← HP.out, HLO.out, HHI.out]
            unfold putStep
            simp [upd]
          rw [e]
          exact HL2.out
      case measure => simp [intOf]; omega
    · have hk3 : k = 3 := by omega
      subst hk3
      go_wp2
      go_end0
      exact ⟨rfl, hlr, hor⟩
set_option maxRecDepth 100000 in
set_option maxHeartbeats 4000000 in
theorem put_pos (b : Nat) (m : Int) (f : Nat → Int) (w : World) (K s : Nat) (hs : s < 30) (hK : K ≤ 105) (hm : 0 < m) (hm1 : m ≤ 9223372036854775807)
    (hl : Limbs w b f) (B : Nat) (hB : B ≤ 2 ^ 61) (hf : Bnd f B) :
    Calls Try.prog 78 #[.pointer (some ⟨b, 0, none⟩), .int .i64 m, .int .i64 (30 * K + s - 1200)] w fun z w' => z = .returned (.tuple #[]) ∧ Limbs w' b (putTo false f m.natAbs s K 3) ∧ OnlyB b w w' := by
  have hK1 : (30 * (K : Int) + s) / 30 = K := by omega
  have hs1 : (30 * (K : Int) + s) % 30 = s := by omega
  have hu : m = (m.natAbs : Int) := by omega
  have h64 : m.natAbs < 2 ^ 64 := by omega
  have HU := Lib.hid hu
  clear hu
  go_enter Try.func78, Try.ntmps78
  go_wp2
  rw [hK1, hs1]
  clear hK1 hs1
  go_loopw [10, 11] (fun x i wr => ∃ k : Nat, k ≤ 3 ∧ i = .int .i64 k ∧ x = .int .u64 ((m.natAbs / 2 ^ (30 * k) : Nat) : Int) ∧ Limbs wr b (putTo false f m.natAbs s K k) ∧ OnlyB b w wr)
    (fun _ i _ => 3 - (intOf i).toNat)
  case atStart => exact ⟨0, by omega, rfl, by rw [Nat.mul_zero, Nat.pow_zero, Nat.div_one, ← HU.out], hl, OnlyB.refl _ _⟩
  case round =>
    obtain ⟨k, hk, rfl, rfl, hlr, hor⟩ := hrel
    by_cases hlt : k < 3
    · have hux : m.natAbs / 2 ^ (30 * k) < 2 ^ 64 := Nat.lt_of_le_of_lt (Nat.div_le_self _ _) h64
      have hbd := hf.to false m.natAbs s K hs k
      have hlim : 2 ^ 61 + k * 2 ^ 30 ≤ 2 ^ 62 := by omega
      have hpl := piece_lt m.natAbs s k hs
      have hpe : piece m.natAbs s k = m.natAbs / 2 ^ (30 * k) % 1073741824 * 2 ^ s := rfl
      obtain ⟨p, hp⟩ : ∃ p, p = piece m.natAbs s k := ⟨_, rfl⟩
      obtain ⟨lo, hlo⟩ : ∃ lo, lo = p % 1073741824 := ⟨_, rfl⟩
      obtain ⟨hi, hhi⟩ : ∃ hi, hi = p / 1073741824 := ⟨_, rfl⟩
      obtain ⟨g, hg⟩ : ∃ g, g = putTo false f m.natAbs s K k := ⟨_, rfl⟩
      rw [← hp] at hpl hpe
      rw [← hg] at hlr hbd
      obtain ⟨x, hx⟩ : ∃ x, x = m.natAbs / 2 ^ (30 * k) := ⟨_, rfl⟩
      rw [← hx] at hux hpe
      have HG := Lib.hid hg
      have HP := Lib.hid hp
      have HX := Lib.hid hx
      have a1 := u64_low30 x hux
      obtain ⟨q, hq⟩ : ∃ q, q = x % 1073741824 := ⟨_, rfl⟩
      rw [← hq] at a1 hpe
      clear hq
      have a2 : IntKind.u64.wrap ((q : Int) * 2 ^ s) = (p : Int) := by
        rw [hpe, IntKind.wrap_u64]
        have : ((2 ^ s : Nat) : Int) = 2 ^ s := by simp
        rw [← this, ← Int.natCast_mul]
        omega
      have a3 := u64_low30 p (by omega)
      rw [← hlo] at a3
      have a4 : (p : Int) / 1073741824 = hi := by omega
      have lo1 : lo < 1073741824 := by omega
      have hi1 : hi < 1073741824 := by omega
      have HLO := Lib.hid hlo
      have HHI := Lib.hid hhi
      rw [← hx]
      clear hg hp hx hpe hlo hhi
      have c1 := (hlr (K + k) (by omega)).1
      have c2 := (hlr (K + k) (by omega)).2
      have b1 := hbd (K + k)
      have b2 := hbd (K + k + 1)
      have k1 : (K : Int) + k < 110 := by omega
      have k2 : (K : Int) + k + 1 < 110 := by omega
      have hl1 := (hlr.set (j := K + k) (by omega) (g (K + k) + (lo : Int))).drew
      have c3 := (hl1 (K + k + 1) (by omega)).1
      have c4 := (hl1 (K + k + 1) (by omega)).2
      rw [show upd g (K + k) (g (K + k) + (lo : Int)) (K + k + 1) = g (K + k + 1) from by simp [upd]] at c3
      have hl2 := (hl1.set (j := K + k + 1) (by omega) (g (K + k + 1) + (hi : Int))).drew
      have ho2 := ((hor.setCell (K + k) none (.int .i64 (g (K + k) + (lo : Int)))).drew.setCell (K + k + 1) none (.int .i64 (g (K + k + 1) + (hi : Int)))).drew
      have HL2 := Lib.hid hl2
      clear hl2 hl1 hlr hor hbd hf hl
      go_wp2
      go_region
      go_wp2
      go_region
      go_wp2
      go_roundw
      case rel =>
        refine ⟨k + 1, by omega, by go_num, ?_, ?_, ho2⟩
        · have : (m.natAbs / 2 ^ (30 * (k + 1)) : Nat) = x / 1073741824 := by
            rw [HX.out, Nat.div_div_eq_div_mul, show (1073741824 : Nat) = 2 ^ 30 from rfl, ← Nat.pow_add, show 30 * k + 30 = 30 * (k + 1) from by omega]
          rw [this]
          rfl
        · have e : putTo false f m.natAbs s K (k + 1) = upd (upd g (K + k) (g (K + k) + (lo : Int))) (K + k + 1) (g (K + k + 1) + (hi : Int)) := by
            show putStep false (putTo false f m.natAbs s K k) (K + k) (piece m.natAbs s k) = _
            rw [← HG.out, ← HP.out, HLO.out, HHI.out]
            unfold putStep
            simp [upd]
          rw [e]
          exact HL2.out
      case measure => simp [intOf]; omega
    · have hk3 : k = 3 := by omega
      subst hk3
      go_wp2
      go_end0
      exact ⟨rfl, hlr, hor⟩

theorem put_zero (b : Nat) (m e : Int) (w : World) (h : (m == 0) = true) :
    Calls Try.prog 78 #[.pointer (some ⟨b, 0, none⟩), .int .i64 m, .int .i64 e] w fun z w' => z = .returned (.tuple #[]) ∧ w = w' := by
  go_enter Try.func78, Try.ntmps78
  go_wp2
  exact bodyPost_ret (results_none rfl _ _ _) rfl ⟨rfl, rfl⟩

/-- Put: m times 2^e is added; no limb is turned by more than 2^32. -/
theorem put_val (b : Nat) (m e : Int) (f : Nat → Int) (w : World) (he1 : -1200 ≤ e) (he2 : e ≤ 1900) (hm1 : -9223372036854775807 ≤ m) (hm2 : m ≤ 9223372036854775807)
    (hl : Limbs w b f) (B : Nat) (hB : B ≤ 2 ^ 61) (hf : Bnd f B) :
    Calls Try.prog 78 #[.pointer (some ⟨b, 0, none⟩), .int .i64 m, .int .i64 e] w fun z w' => z = .returned (.tuple #[]) ∧
      ∃ g, Limbs w' b g ∧ Bnd g (B + 2 ^ 32) ∧ val g 110 = val f 110 + m * 2 ^ (e + 1200).toNat ∧ OnlyB b w w' := by
  by_cases h0 : m = 0
  · refine (put_zero b m e w (by simpa using h0)).mono ?_
    rintro z w' ⟨rfl, rfl⟩
    exact ⟨rfl, f, hl, fun i => by have := hf i; omega, by simp [h0], OnlyB.refl _ _⟩
  · obtain ⟨K, hK⟩ : ∃ K : Nat, (K : Int) = (e + 1200) / 30 := ⟨((e + 1200) / 30).toNat, by omega⟩
    obtain ⟨s, hs⟩ : ∃ s : Nat, (s : Int) = (e + 1200) % 30 := ⟨((e + 1200) % 30).toNat, by omega⟩
    have ee : e = 30 * K + s - 1200 := by omega
    have hK2 : K ≤ 105 := by omega
    have hs2 : s < 30 := by omega
    have eN : (e + 1200).toNat = 30 * K + s := by omega
    have h90 : m.natAbs < 2 ^ 90 := Nat.lt_of_lt_of_le (show m.natAbs < 2 ^ 64 by omega) (by decide)
    rw [eN]
    subst ee
    by_cases hn : m < 0
    · refine (put_neg b m f w K s hs2 hK2 hn hm1 hl B hB hf).mono ?_
      rintro z w' ⟨rfl, h1, h2⟩
      refine ⟨rfl, _, h1, ?_, ?_, h2⟩
      · intro i; have := hf.to true m.natAbs s K hs2 3 i; omega
      · rw [val_put _ _ _ _ _ h90 (by omega)]
        congr 2
        simp; omega
    · refine (put_pos b m f w K s hs2 hK2 (by omega) hm2 hl B hB hf).mono ?_
      rintro z w' ⟨rfl, h1, h2⟩
      refine ⟨rfl, _, h1, ?_, ?_, h2⟩
      · intro i; have := hf.to false m.natAbs s K hs2 3 i; omega
      · rw [val_put _ _ _ _ _ h90 (by omega)]
        congr 2
        simp; omega

end Go.Proofs.Ytnpkblidlmkagaa
