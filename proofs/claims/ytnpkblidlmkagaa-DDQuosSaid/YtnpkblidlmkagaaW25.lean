/- The contract of times: the product of two numbers, times a sign, is added. -/
import Derived.Test.YtnpkblidlmkagaaW20
import Derived.Test.YtnpkblidlmkagaaW13
import Derived.Test.YtnpkblidlmkagaaW7
set_option linter.unusedSimpArgs false
set_option linter.unusedVariables false
namespace Go.Proofs.Ytnpkblidlmkagaa
open Go.RowKit Fl

/-- Times at two words adds P. -/
def TimesAt (u v : Nat) (P : Int) : Prop := ∀ (b : Nat) (f : Nat → Int) (w : World), Limbs w b f → ∀ B : Nat, B ≤ 2 ^ 60 → Bnd f B →
  Calls Try.prog 63 #[.pointer (some ⟨b, 0, none⟩), .float .f64 u, .float .f64 v] w fun z w' => z = .returned (.tuple #[]) ∧
    ∃ g, Limbs w' b g ∧ Bnd g (B + 4 * 2 ^ 32) ∧ val g 110 = val f 110 + P * 2 ^ 126 ∧ OnlyB b w w'

set_option maxHeartbeats 2000000 in
theorem ltimes_any (b h l i m s p q : Nat) (P1 P2 P3 P4 : Int) (f : Nat → Int) (w : World) (h1 : fmul s h = some p) (h2 : fmul s l = some q) (t1 : TimesAt p i P1) (t2 : TimesAt p m P2) (t3 : TimesAt q i P3) (t4 : TimesAt q m P4)
    (hl : Limbs w b f) (B : Nat) (hB : B ≤ 2 ^ 59) (hf : Bnd f B) :
    Calls Try.prog 36 #[.pointer (some ⟨b, 0, none⟩), num h l, num i m, .float .f64 s] w fun z w' => z = .returned (.tuple #[]) ∧
      ∃ g, Limbs w' b g ∧ Bnd g (B + 16 * 2 ^ 32) ∧ val g 110 = val f 110 + (P1 + P2 + P3 + P4) * 2 ^ 126 ∧ OnlyB b w w' := by
  replace h1 := hmul h1
  replace h2 := hmul h2
  have hlt := hl.lt
  have l0 := Lib.hid ((hl.alloc (.cells #[.float .f64 h, .float .f64 l] 25)).alloc (.cells #[.float .f64 i, .float .f64 m] 25))
  have HA0 := Lib.hid ((Two.new w (.float .f64 h) (.float .f64 l) 25).alloc (.cells #[.float .f64 i, .float .f64 m] 25))
  have HB0 := Lib.hid (Two.new (w.alloc (.cells #[.float .f64 h, .float .f64 l] 25)) (.float .f64 i) (.float .f64 m) 25)
  rw [World.size_alloc] at HB0
  have HO0 := Lib.hid (((OnlyB.refl b w).alloc (.cells #[.float .f64 h, .float .f64 l] 25)).alloc (.cells #[.float .f64 i, .float .f64 m] 25))
  have T1 := Lib.hid t1
  have T2 := Lib.hid t2
  have T3 := Lib.hid t3
  have T4 := Lib.hid t4
  have HF := Lib.hid hf
  clear hl t1 t2 t3 t4 hf
  go_enter Try.func36, Try.ntmps36
  go_wp2_with (first | simp only [h1, h2] | fail)
  refine (T1.out b _ _ l0.out _ (by omega) HF.out).mono ?_
  rintro z w1 ⟨rfl, g1, l1, n1, v1, k1⟩
  have L1 := Lib.hid l1
  have N1 := Lib.hid n1
  have V1 := Lib.hid v1
  have HA1 := Lib.hid (HA0.out.only k1 (by omega))
  have HB1 := Lib.hid (HB0.out.only k1 (by omega))
  have HO1 := Lib.hid (HO0.out.trans k1)
  clear l1 n1 v1 k1 HA0 HB0 HO0
  obtain ⟨r0, r1, f0, f1⟩ := HA1.out
  obtain ⟨r2, r3, f2, f3⟩ := HB1.out
  go_wp2_with (first | simp only [h1, h2] | fail)
  clear r0 r1 f0 f1 r2 r3 f2 f3
  refine (T2.out b _ _ L1.out _ (by omega) N1.out).mono ?_
  rintro z w2 ⟨rfl, g2, l2, n2, v2, k2⟩
  have L2 := Lib.hid l2
  have N2 := Lib.hid n2
  have V2 := Lib.hid v2
  have HA2 := Lib.hid (HA1.out.only k2 (by omega))
  have HB2 := Lib.hid (HB1.out.only k2 (by omega))
  have HO2 := Lib.hid (HO1.out.trans k2)
  clear l2 n2 v2 k2 HA1 HB1 HO1
  obtain ⟨r0, r1, f0, f1⟩ := HA2.out
  obtain ⟨r2, r3, f2, f3⟩ := HB2.out
  go_wp2_with (first | simp only [h1, h2] | fail)
  clear r0 r1 f0 f1 r2 r3 f2 f3
  refine (T3.out b _ _ L2.out _ (by omega) N2.out).mono ?_
  rintro z w3 ⟨rfl, g3, l3, n3, v3, k3⟩
  have L3 := Lib.hid l3
  have N3 := Lib.hid n3
  have V3 := Lib.hid v3
  have HA3 := Lib.hid (HA2.out.only k3 (by omega))
  have HB3 := Lib.hid (HB2.out.only k3 (by omega))
  have HO3 := Lib.hid (HO2.out.trans k3)
  clear l3 n3 v3 k3 HA2 HB2 HO2
  obtain ⟨r0, r1, f0, f1⟩ := HA3.out
  obtain ⟨r2, r3, f2, f3⟩ := HB3.out
  go_wp2_with (first | simp only [h1, h2] | fail)
  clear r0 r1 f0 f1 r2 r3 f2 f3
  refine (T4.out b _ _ L3.out _ (by omega) N3.out).mono ?_
  rintro z w4 ⟨rfl, g4, l4, n4, v4, k4⟩
  have L4 := Lib.hid l4
  have N4 := Lib.hid n4
  have V4 := Lib.hid v4
  have HA4 := Lib.hid (HA3.out.only k4 (by omega))
  have HB4 := Lib.hid (HB3.out.only k4 (by omega))
  have HO4 := Lib.hid (HO3.out.trans k4)
  clear l4 n4 v4 k4 HA3 HB3 HO3
  go_wp2
  go_end0
  refine ⟨rfl, g4, L4.out, ?_, ?_, HO4.out⟩
  · have := N4.out
    rwa [show B + 4 * 2 ^ 32 + 4 * 2 ^ 32 + 4 * 2 ^ 32 + 4 * 2 ^ 32 = B + 16 * 2 ^ 32 from by omega] at this
  · rw [V4.out, V3.out, V2.out, V1.out]
    simp only [Int.add_mul]
    omega
end Go.Proofs.Ytnpkblidlmkagaa
