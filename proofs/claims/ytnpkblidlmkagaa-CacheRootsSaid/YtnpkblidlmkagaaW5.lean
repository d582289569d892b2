/- The contracts of the references' small functions on floats and long numbers. -/
import Derived.Test.YtnpkblidlmkagaaW4
set_option linter.unusedSimpArgs false
set_option linter.unusedVariables false
namespace Go.Proofs.Ytnpkblidlmkagaa
open Go.RowKit Fl

/-- A word's parts: a whole number and a power of two. -/
def pm (x : Nat) : Int :=
  let m : Int := if x / 2 ^ 52 % 2048 = 0 then ((x % 2 ^ 52 : Nat) : Int) else ((x % 2 ^ 52 : Nat) : Int) + 2 ^ 52
  if x / 2 ^ 63 = 1 then -m else m
def pe (x : Nat) : Int := (if x / 2 ^ 52 % 2048 = 0 then 1 else ((x / 2 ^ 52 % 2048 : Nat) : Int)) - 1075

def finB (x : Nat) : Bool := x / 2 ^ 52 % 2048 != 2047

theorem w2 (x : Nat) (h : x < 2 ^ 64) : IntKind.u64.wrap ((x : Int) * 2) / 9007199254740992 = ((x / 2 ^ 52 % 2048 : Nat) : Int) := by
  rw [IntKind.wrap_u64]; omega
theorem w12 (x : Nat) (h : x < 2 ^ 64) : IntKind.u64.wrap ((x : Int) * 4096) / 4096 = ((x % 2 ^ 52 : Nat) : Int) := by
  rw [IntKind.wrap_u64]; omega

set_option maxRecDepth 100000 in
theorem finite_any (x : Nat) (w : World) (hx : x < 2 ^ 64) :
    Calls Try.prog 51 #[.float .f64 x] w fun z w' => z = .returned (.bool (finB x)) ∧ w = w' := by
  have hbits := run_bits
  have h2 := w2 x hx
  obtain ⟨e, he⟩ : ∃ e, e = x / 2 ^ 52 % 2048 := ⟨_, rfl⟩
  rw [← he] at h2
  have HE := Lib.hid he
  clear he
  go_enter Try.func51, Try.ntmps51
  go_wp2
  go_ret
  refine ⟨?_, rfl⟩
  show Ending.returned (Value.bool ((e : Int) != 2047)) = _
  unfold finB
  rw [← HE.out]
  congr 2
  rw [Bool.eq_iff_iff]
  simp
  omega

set_option maxRecDepth 100000 in
theorem parts_any (x : Nat) (w : World) (hx : x < 2 ^ 64) :
    Calls Try.prog 77 #[.float .f64 x] w fun z w' => z = .returned (.tuple #[.int .i64 (pm x), .int .i64 (pe x)]) ∧ w = w' := by
  have hbits := run_bits
  have h2 := w2 x hx
  have h12 := w12 x hx
  obtain ⟨e, he⟩ : ∃ e, e = x / 2 ^ 52 % 2048 := ⟨_, rfl⟩
  obtain ⟨m, hm⟩ : ∃ m, m = x % 2 ^ 52 := ⟨_, rfl⟩
  rw [← he] at h2
  rw [← hm] at h12
  have e1 : e < 2048 := by omega
  have m1 : m < 4503599627370496 := by omega
  have HE := Lib.hid he
  have HM := Lib.hid hm
  clear he hm
  have hfin : ∀ (a b : Int), a = pm x → b = pe x → Ending.returned (.tuple #[.int .i64 a, .int .i64 b]) = .returned (.tuple #[.int .i64 (pm x), .int .i64 (pe x)]) := by
    intro a b h1 h2; rw [h1, h2]
  have HF := Lib.hid hfin
  clear hfin
  by_cases hs : x / 2 ^ 63 = 1
  · have t1 : ((x : Int) / 9223372036854775808 == 1) = true := by simp; omega
    by_cases h0 : 0 < (e : Int)
    · go_enter Try.func77, Try.ntmps77
      go_wp2
      go_ret2
      refine ⟨HF.out _ _ ?_ ?_, rfl⟩
      · show (-((m : Int) + 4503599627370496)) = _
        unfold pm
        rw [← HE.out, ← HM.out, if_pos hs, if_neg (by omega)]; rfl
      · show ((e : Int) - 1075) = _
        unfold pe
        rw [← HE.out, if_neg (by omega)]
    · go_enter Try.func77, Try.ntmps77
      go_wp2
      go_ret2
      refine ⟨HF.out _ _ ?_ ?_, rfl⟩
      · show (-(m : Int)) = _
        unfold pm
        rw [← HE.out, ← HM.out, if_pos hs, if_pos (by omega)]
      · show (-1074 : Int) = _
        unfold pe
        rw [← HE.out, if_pos (by omega)]; rfl
  · have t1 : ((x : Int) / 9223372036854775808 == 1) = false := by simp; omega
    have h3 : (x : Int) * 2 / 9007199254740992 = e := by rw [← h2, IntKind.wrap_u64]; omega
    by_cases h0 : 0 < (e : Int)
    · go_enter Try.func77, Try.ntmps77
      go_wp2
      go_ret2
      refine ⟨HF.out _ _ ?_ ?_, rfl⟩
      · show ((m : Int) + 4503599627370496) = _
        unfold pm
        rw [← HE.out, ← HM.out, if_neg hs, if_neg (by omega)]; rfl
      · show ((e : Int) - 1075) = _
        unfold pe
        rw [← HE.out, if_neg (by omega)]
    · go_enter Try.func77, Try.ntmps77
      go_wp2
      go_ret2
      refine ⟨HF.out _ _ ?_ ?_, rfl⟩
      · show (x : Int) = _
        have := HE.out
        unfold pm
        rw [if_neg hs, if_pos (by omega)]
        omega
      · show (-1074 : Int) = _
        unfold pe
        rw [← HE.out, if_pos (by omega)]; rfl

/-- The parts make the float. -/
theorem iv_parts {x : Nat} (hx : Fnt x) : iv x = pm x * 2 ^ (pe x + 1074).toNat ∧ -9007199254740992 < pm x ∧ pm x < 9007199254740992 ∧ -1074 ≤ pe x ∧ pe x ≤ 971 := by
  have h1 := hx.1
  have h2 := hx.2
  have hs : x / 2 ^ 63 = 0 ∨ x / 2 ^ 63 = 1 := by omega
  have he : x / 2 ^ 52 % 2048 = x % 2 ^ 63 / 2 ^ 52 := by omega
  have hm : x % 2 ^ 52 = x % 2 ^ 63 % 2 ^ 52 := by omega
  have e52 : (2 : Int) ^ 52 = 4503599627370496 := by decide
  unfold pm pe
  rw [he, hm]
  by_cases h0 : x % 2 ^ 63 / 2 ^ 52 = 0
  · rw [if_pos h0, if_pos h0]
    have hlt : x % 2 ^ 63 < 2 ^ 52 := by omega
    have hr : iv x = Ieee.signed (x / 2 ^ 63 % 2 == 1) (x % 2 ^ 63) 0 := by
      unfold iv Ieee.Format.read
      rw [D_least, D_binade, D_sign]
      simp only
      rw [if_pos hlt]
      rfl
    rw [hr, signed_eq]
    rw [Nat.mod_eq_of_lt hlt]
    rcases hs with hs | hs <;> rw [hs] <;> simp <;> omega
  · rw [if_neg h0, if_neg h0]
    have hlt : ¬ x % 2 ^ 63 < 2 ^ 52 := by omega
    have hr : iv x = Ieee.signed (x / 2 ^ 63 % 2 == 1) (2 ^ 52 + x % 2 ^ 63 % 2 ^ 52) (x % 2 ^ 63 / 2 ^ 52 - 1) := by
      unfold iv Ieee.Format.read
      rw [D_least, D_binade, D_sign, D_inf]
      simp only
      rw [if_neg hlt, if_pos h2]
      simp only [dv]
      congr 1
      omega
    rw [hr, signed_eq]
    have ee : (((x % 2 ^ 63 / 2 ^ 52 : Nat) : Int) - 1075 + 1074).toNat = x % 2 ^ 63 / 2 ^ 52 - 1 := by omega
    rw [ee]
    refine ⟨?_, ?_⟩
    · congr 1
      rcases hs with hs | hs <;> rw [hs] <;> simp <;> omega
    · rcases hs with hs | hs <;> rw [hs] <;> simp <;> omega

/-- Add: a finite float is added. -/
theorem ladd_any (b x : Nat) (f : Nat → Int) (w : World) (hx : Fnt x) (hl : Limbs w b f) (B : Nat) (hB : B ≤ 2 ^ 61) (hf : Bnd f B) :
    Calls Try.prog 31 #[.pointer (some ⟨b, 0, none⟩), .float .f64 x] w fun z w' => z = .returned (.tuple #[]) ∧
      ∃ g, Limbs w' b g ∧ Bnd g (B + 2 ^ 32) ∧ val g 110 = val f 110 + iv x * 2 ^ 126 ∧ OnlyB b w w' := by
  obtain ⟨h1, h2, h3, h4, h5⟩ := iv_parts hx
  have hv : iv x * 2 ^ 126 = pm x * 2 ^ (pe x + 1200).toNat := by
    rw [h1, Int.mul_assoc, ← Int.pow_add]
    congr 2
    omega
  rw [hv]
  clear hv h1
  obtain ⟨m, hm⟩ : ∃ m, m = pm x := ⟨_, rfl⟩
  obtain ⟨e, he⟩ : ∃ e, e = pe x := ⟨_, rfl⟩
  have hp := parts_any x w hx.1
  rw [← hm, ← he] at hp ⊢
  rw [← hm] at h2 h3
  rw [← he] at h4 h5
  clear hm he
  have HP := Lib.hid hp
  clear hp
  go_enter Try.func31, Try.ntmps31
  go_wp2_with fail
  refine HP.out.mono ?_
  rintro z w' ⟨rfl, rfl⟩
  go_wp2_with fail
  refine (put_val b m e f w (by omega) (by omega) (by omega) (by omega) hl B hB hf).mono ?_
  rintro z w' ⟨rfl, h⟩
  have H := Lib.hid h
  clear h
  go_wp2
  go_end0
  exact ⟨rfl, H.out⟩

end Go.Proofs.Ytnpkblidlmkagaa
