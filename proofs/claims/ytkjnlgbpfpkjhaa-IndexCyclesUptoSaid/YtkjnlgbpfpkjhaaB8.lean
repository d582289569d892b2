/- The contract of the document's Number. -/
import Derived.Test.YtkjnlgbpfpkjhaaB6
set_option linter.unusedSimpArgs false
set_option linter.unusedVariables false
namespace Go.Proofs.Ytkjnlgbpfpkjhaa
open Go.RowKit

set_option maxRecDepth 100000 in
theorem rNumber_none (A A' : Option Addr) (n k c c' : Nat) (f : Nat → Int) (w : World) (hA' : IntsAt w A' n f) (hn : n ≤ 9223372036854775807) (h : prodO f n = none) :
    Calls Try.prog 20 #[.slice A k c, .slice A' n c'] w fun z w' => z = .returned (.tuple #[.int .i64 0, .int .i64 2]) ∧ w = w' := by
  have HP := Lib.hid (Product_any A' n c' f w hA' hn 0 (.inl ⟨h, rfl⟩))
  clear hA' h
  go_enter Try.func20, Try.ntmps20
  go_wp2_with fail
  refine HP.out.mono ?_
  rintro z w' ⟨rfl, rfl⟩
  go_wp2
  go_ret2
  exact ⟨rfl, rfl⟩

set_option maxRecDepth 100000 in
theorem rNumber_len (A A' : Option Addr) (n k c c' : Nat) (p : Int) (f : Nat → Int) (w : World) (hA' : IntsAt w A' n f) (hn : n ≤ 9223372036854775807) (hk : k ≤ 9223372036854775807) (h : prodO f n = some p) (hne : k ≠ n) :
    Calls Try.prog 20 #[.slice A k c, .slice A' n c'] w fun z w' => z = .returned (.tuple #[.int .i64 0, .int .i64 4]) ∧ w = w' := by
  have HP := Lib.hid (Product_any A' n c' f w hA' hn p (.inr h))
  have h1 : ((k : Int) != (n : Int)) = true := by rw [bne_iff_ne]; omega
  obtain ⟨-, h3, -, -, -⟩ := prodTo_wt (prodO_some h).2
  have h2 : (p == 0) = false := by simp; omega
  clear hA' h hne
  go_enter Try.func20, Try.ntmps20
  go_wp2_with fail
  refine HP.out.mono ?_
  rintro z w' ⟨rfl, rfl⟩
  go_wp2
  go_ret2
  exact ⟨rfl, rfl⟩

set_option maxRecDepth 100000 in
set_option maxHeartbeats 2000000 in
theorem rNumber_any (A A' : Option Addr) (n c c' : Nat) (p r e : Int) (f d : Nat → Int) (w : World) (hA : IntsAt w A n d) (hA' : IntsAt w A' n f) (h : prodO f n = some p)
    (hr : (¬ (∀ i, i < n → 0 ≤ d i ∧ d i < f i) ∧ r = 0 ∧ e = 3) ∨ ((∀ i, i < n → 0 ≤ d i ∧ d i < f i) ∧ r = num f d n ∧ e = 0)) :
    Calls Try.prog 20 #[.slice A n c, .slice A' n c'] w fun z w' => z = .returned (.tuple #[.int .i64 r, .int .i64 e]) ∧ ∃ m, w' = w.drewN m := by
  obtain ⟨h30, h'⟩ := prodO_some h
  have HP := Lib.hid (Product_any A' n c' f w hA' (by omega) p (.inr h))
  have HA := Lib.hid hA
  have HA' := Lib.hid hA'
  have HR := Lib.hid hr
  have HF := Lib.hid (rad_le h')
  have HH := Lib.hid h'
  have h1 := (prodTo_wt h').2.1
  have h2 : (p == 0) = false := by simp; omega
  clear hA hA' h h' hr
  go_enter Try.func20, Try.ntmps20
  go_wp2_with fail
  refine HP.out.mono ?_
  rintro z w' ⟨rfl, rfl⟩
  go_wp2
  go_loopw [7, 8, 9] (fun q t i wr => ∃ (k : Nat) (a g : Int), k ≤ n ∧ i = .int .i64 k ∧ q = .int .i64 a ∧ t = .int .i64 g ∧ 0 ≤ a ∧ a < g ∧ g ≤ 1048576 ∧ Hid (a = num f d k) ∧ Hid (g = wt f k) ∧ Hid (∀ i, i < k → 0 ≤ d i ∧ d i < f i) ∧ Hid (∃ m, wr = w.drewN m)) (fun _ _ i _ => n - (intOf i).toNat)
  case atStart => exact ⟨0, 0, 1, by omega, rfl, rfl, rfl, by omega, by omega, by omega, Lib.hid rfl, Lib.hid rfl, Lib.hid (fun i hi => by omega), Lib.hid ⟨0, rfl⟩⟩
  case round =>
    obtain ⟨k, a, g, hk, rfl, rfl, rfl, ha1, ha2, hg1, ha, hg, hfit, hw⟩ := hrel
    obtain ⟨m, hm⟩ := hw.out
    subst hm
    by_cases hlt : k < n
    · obtain ⟨b, o, rfl, hc⟩ := HA.out k hlt
      obtain ⟨b', o', rfl, hc'⟩ := HA'.out k hlt
      have hv2 := HF.out k hlt
      have HS : Hid ((0 ≤ d k ∧ d k < f k) → ∀ i, i < k + 1 → 0 ≤ d i ∧ d i < f i) := Lib.hid (fun hh i hi => by
        by_cases e : i = k
        · subst e; exact hh
        · exact hfit.out i (by omega))
      have HX : Hid (¬ (0 ≤ d k ∧ d k < f k) → r = 0 ∧ e = 3) := Lib.hid (fun hh => by
        rcases HR.out with ⟨_, h⟩ | ⟨h, _⟩
        · exact h
        · exact absurd (h k hlt) hh)
      have e1 : Hid (a + g * d k = num f d (k + 1)) := Lib.hid (by rw [ha.out, hg.out]; rfl)
      have e2 : Hid (g * f k = wt f (k + 1)) := Lib.hid (by rw [hg.out]; rfl)
      have HB : Hid (0 ≤ d k ∧ d k < f k → (0 ≤ a + g * d k ∧ a + g * d k < g * f k) ∧ 0 ≤ g * d k) := Lib.hid (fun hh => by
        have := num_bd HH.out (k + 1) hlt (HS.out hh)
        rw [e1.out, e2.out]
        exact ⟨this, Int.mul_nonneg (by omega) hh.1⟩)
      have hB2 : g * f k ≤ 1048576 := by
        rw [e2.out]
        have := ((prodTo_wt HH.out).2.2.2.2 (k + 1) hlt).2
        have := (prodTo_wt HH.out).2.2.1
        omega
      obtain ⟨v, hv⟩ : ∃ v, f k = v := ⟨_, rfl⟩
      obtain ⟨u, hu⟩ : ∃ u, d k = u := ⟨_, rfl⟩
      rw [hv] at hc' hv2 HS HX e2 HB hB2
      rw [hu] at hc HS HX e1 HB
      clear hv hu
      have k1 : (w.drewN m).cell? ⟨b, o + k, none⟩ = some (.int .i64 u) := hc
      have k2 : (w.drewN m).cell? ⟨b', o' + k, none⟩ = some (.int .i64 v) := hc'
      by_cases h0 : u < 0
      · obtain ⟨rfl, rfl⟩ := HX.out (by omega)
        clear HX HS HB
        go_wp2_with fail
        go_quiet (fail)
        go_wp2
        go_ret2
        exact ⟨rfl, m + nq, by rw [World.drewN_drewN]⟩
      · have h00 : decide (u < 0) = false := decide_eq_false h0
        by_cases h1 : v ≤ u
        · obtain ⟨rfl, rfl⟩ := HX.out (by omega)
          clear HX HS HB
          go_wp2_with fail
          go_quiet (fail)
          go_wp2
          go_ret2
          exact ⟨rfl, m + nq, by rw [World.drewN_drewN]⟩
        · have HS' := Lib.hid (HS.out (by omega))
          obtain ⟨⟨b1, b2⟩, b3⟩ := HB.out (by omega)
          clear HX HS HB
          go_wp2_with fail
          go_quiet (fail)
          go_wp2
          go_roundw
          case rel => exact ⟨k + 1, _, _, by omega, by go_num, rfl, rfl, by omega, by omega, by omega, e1, e2, HS', Lib.hid ⟨_, rfl⟩⟩
          case measure => simp [intOf]; omega
    · obtain rfl : k = n := by omega
      obtain ⟨rfl, rfl⟩ : r = a ∧ e = 0 := by
        rcases HR.out with ⟨h, _⟩ | ⟨_, h⟩
        · exact absurd hfit.out h
        · exact ⟨by rw [ha.out]; exact h.1, h.2⟩
      go_wp2
      go_ret2
      exact ⟨rfl, m, rfl⟩
end Go.Proofs.Ytkjnlgbpfpkjhaa
