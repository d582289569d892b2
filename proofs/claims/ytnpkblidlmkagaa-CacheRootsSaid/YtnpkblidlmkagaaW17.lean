/- The walk of DDFloats. -/
import Derived.Test.YtnpkblidlmkagaaW16
set_option linter.unusedSimpArgs false
set_option linter.unusedVariables false
namespace Go.Proofs.Ytnpkblidlmkagaa
open Go.RowKit Fl

set_option maxRecDepth 100000 in
set_option maxHeartbeats 4000000 in
theorem floats_any (a b : Int) (X Y r : Nat) (w : World) (ht : ∀ w, Calls Try.prog 33 #[pair2 a b] w fun z w' => z = .returned (num X Y) ∧ Below w.heap.size w w') (hr : fadd X Y = some r) (ho : (FloatKind.f64.format.order r X == some Ordering.eq) = true) :
    Calls Try.prog 4 #[pair2 a b] w fun z w' => z = .returned (.bool true) ∧ Below w.heap.size w w' := by
  have HT := Lib.hid ht
  have HR := Lib.hid hr
  clear ht hr
  go_enter Try.func4, Try.ntmps4
  go_wp2_with fail
  refine (HT.out _).mono ?_
  rintro z w1 ⟨rfl, hb⟩
  have hz : w.heap.size < w1.heap.size := by have := hb.size; simp at this; omega
  have B0 := ((Below.refl _ w).alloc (Nat.le_refl _) _).trans (hb.mono (by simp))
  clear hb
  go_wp2_with fail
  have T : Two (w1.alloc (.cells #[.float .f64 X, .float .f64 Y] 25)) w1.heap.size (.float .f64 X) (.float .f64 Y) := ⟨by simp [go_sem], by simp [go_sem], by simp [go_sem], by simp [go_sem]⟩
  have B1 : Hid (Below w.heap.size w (w1.alloc (.cells #[.float .f64 X, .float .f64 Y] 25)).drew) := Lib.hid (B0.alloc B0.size _).drew
  obtain ⟨r0, r1, f0, f1⟩ := T
  clear B0
  go_region_held3 (fun w' => w'.cell? ⟨w1.heap.size, 0, none⟩ = some (.float .f64 X) ∧ w'.cell? ⟨w1.heap.size, 1, none⟩ = some (.float .f64 Y) ∧ Hid (Below w.heap.size w w'))
    (first | exact ⟨r0, r1, B1⟩ | exact sk (by assumption) (by assumption))
    (first
      | (go_at_call 27; refine (wakes4_any _).mono ?_; rintro z w' ⟨rfl, hbb⟩)
      | (go_at_call 34; refine (float_any _ _ _ _ HR.out).mono ?_; rintro z w' ⟨rfl, hbb⟩))
  obtain ⟨q0, q1, B2⟩ : _ ∧ _ ∧ Hid (Below w.heap.size w _) := by assumption
  go_wp2
  go_ret
  exact ⟨rfl, B2.out⟩

theorem floats_all (a b : Int) (w : World) :
    Calls Try.prog 4 #[pair2 a b] w fun z w' => z = .returned (.bool true) ∧ Below w.heap.size w w' := by
  obtain ⟨X, Y, t, ht⟩ := tame_any a b
  have hlt : (iv X + iv Y).natAbs < 2 ^ Bt := by
    have hr := rnd_rel (iv X + iv Y)
    rw [t.neat] at hr
    rcases t.size with ⟨h1, h2⟩ | ⟨_, h2⟩
    · rw [h1, h2]; exact Nat.two_pow_pos _
    · have : 2 ^ hiE * 2 ≤ 2 ^ Bt := by rw [← Nat.pow_succ]; exact pow_mono (by have := Bt_eq; have := hiE_eq; omega)
      generalize 2 ^ hiE = P at *
      omega
  obtain ⟨r, h1, fr, vr⟩ := fadd_spec t.fX t.fY hlt
  exact floats_any a b X Y r w ht h1 (order_eq fr t.fX (by rw [vr, t.neat]))

end Go.Proofs.Ytnpkblidlmkagaa
