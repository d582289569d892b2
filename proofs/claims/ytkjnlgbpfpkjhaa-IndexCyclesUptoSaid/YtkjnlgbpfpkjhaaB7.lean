/- The contracts of Number and of the document's Number. -/
import Derived.Test.YtkjnlgbpfpkjhaaB5
import Derived.Test.YtkjnlgbpfpkjhaaB6
set_option linter.unusedSimpArgs false
set_option linter.unusedVariables false
namespace Go.Proofs.Ytkjnlgbpfpkjhaa
open Go.RowKit

/-- Are the digits such? -/
def Fit (f d : Nat → Int) (n : Nat) : Prop := ∀ i, i < n → 0 ≤ d i ∧ d i < f i

set_option maxRecDepth 100000 in
theorem Number_none (A A' : Option Addr) (n k c c' : Nat) (f d : Nat → Int) (w : World) (hA' : IntsAt w A' n f) (hn : n ≤ 9223372036854775807) (h : prodO f n = none) :
    Calls Try.prog 19 #[.slice A k c, .slice A' n c'] w fun z w' => z = .returned (.tuple #[.int .i64 0, .int .i64 2]) ∧ w = w' := by
  have HP := Lib.hid (product_any A' n c' f w hA' hn 0 2 (.inl ⟨h, rfl, rfl⟩))
  clear hA' h
  go_enter Try.func19, Try.ntmps19
  go_wp2_with fail
  refine HP.out.mono ?_
  rintro z w' ⟨rfl, rfl⟩
  go_wp2
  go_ret2
  exact ⟨rfl, rfl⟩

set_option maxRecDepth 100000 in
theorem Number_len (A A' : Option Addr) (n k c c' : Nat) (p : Int) (f : Nat → Int) (w : World) (hA' : IntsAt w A' n f) (hn : n ≤ 9223372036854775807) (hk : k ≤ 9223372036854775807) (h : prodO f n = some p) (hne : k ≠ n) :
    Calls Try.prog 19 #[.slice A k c, .slice A' n c'] w fun z w' => z = .returned (.tuple #[.int .i64 0, .int .i64 4]) ∧ w = w' := by
  have HP := Lib.hid (product_any A' n c' f w hA' hn p 0 (.inr ⟨h, rfl⟩))
  have h1 : ((k : Int) != (n : Int)) = true := by rw [bne_iff_ne]; omega
  clear hA' h hne
  go_enter Try.func19, Try.ntmps19
  go_wp2_with fail
  refine HP.out.mono ?_
  rintro z w' ⟨rfl, rfl⟩
  go_wp2
  go_ret2
  exact ⟨rfl, rfl⟩

set_option maxRecDepth 100000 in
set_option maxHeartbeats 1000000 in
theorem Number_any (A A' : Option Addr) (n c c' : Nat) (p r e : Int) (f d : Nat → Int) (w : World) (hA : IntsAt w A n d) (hA' : IntsAt w A' n f) (h : prodO f n = some p) (hr : (¬ Fit f d n ∧ r = 0 ∧ e = 3) ∨ (Fit f d n ∧ r = num f d n ∧ e = 0)) :
    Calls Try.prog 19 #[.slice A n c, .slice A' n c'] w fun z w' => z = .returned (.tuple #[.int .i64 r, .int .i64 e]) ∧ Below w.heap.size w w' := by
  obtain ⟨h30, h'⟩ := prodO_some h
  have HP := Lib.hid (product_any A' n c' f w hA' (by omega) p 0 (.inr ⟨h, rfl⟩))
  have HN := Lib.hid (fun hf => number_any A A' n c c' f d w hA hA' h30 p h' hf)
  have HA := Lib.hid hA
  have HA' := Lib.hid hA'
  have HR := Lib.hid hr
  have HF := Lib.hid (rad_le h')
  clear hA hA' h h' hr
  go_enter Try.func19, Try.ntmps19
  go_wp2_with fail
  refine HP.out.mono ?_
  rintro z w' ⟨rfl, rfl⟩
  go_wp2
  go_loop [8, 9, 25] (fun q r i => ∃ k : Nat, k ≤ n ∧ i = .int .i64 k ∧ Hid (∀ i, i < k → 0 ≤ d i ∧ d i < f i)) (fun _ _ i => n - (intOf i).toNat)
  case atStart => exact ⟨0, by omega, rfl, Lib.hid (fun i hi => by omega)⟩
  case round =>
    obtain ⟨k, hk, rfl, hfit⟩ := hrel
    by_cases hlt : k < n
    · obtain ⟨b, o, rfl, hc⟩ := HA.out k hlt
      obtain ⟨b', o', rfl, hc'⟩ := HA'.out k hlt
      have hv2 := HF.out k hlt
      have HS : Hid ((0 ≤ d k ∧ d k < f k) → ∀ i, i < k + 1 → 0 ≤ d i ∧ d i < f i) := Lib.hid (fun hh i hi => by
        by_cases e : i = k
        · subst e; exact hh
        · exact hfit.out i (by omega))
      have HX : Hid (¬ (0 ≤ d k ∧ d k < f k) → r = 0 ∧ e = 3) := Lib.hid (fun hh => by
        rcases HR.out with ⟨_, h⟩ | ⟨h, _⟩
        · exact h
        · exact absurd (h k hlt) hh)
      obtain ⟨v, hv⟩ : ∃ v, f k = v := ⟨_, rfl⟩
      obtain ⟨u, hu⟩ : ∃ u, d k = u := ⟨_, rfl⟩
      rw [hv] at hc' hv2 HS HX
      rw [hu] at hc HS HX
      clear hv hu
      by_cases h0 : u < 0
      · obtain ⟨rfl, rfl⟩ := HX.out (by omega)
        go_wp2
        go_ret2
        exact ⟨rfl, Below.refl _ _⟩
      · by_cases h1 : v ≤ u
        · obtain ⟨rfl, rfl⟩ := HX.out (by omega)
          go_wp2
          go_ret2
          exact ⟨rfl, Below.refl _ _⟩
        · have HS' := Lib.hid (HS.out (by omega))
          clear HX HS
          go_wp2
          go_round
          case rel => exact ⟨k + 1, by omega, by go_num, HS'⟩
          case measure => simp [intOf]; omega
    · obtain rfl : k = n := by omega
      obtain ⟨rfl, rfl⟩ : r = num f d k ∧ e = 0 := by
        rcases HR.out with ⟨h, _⟩ | ⟨_, h⟩
        · exact absurd hfit.out h
        · exact h
      have HN' := Lib.hid (HN.out hfit.out)
      clear HN
      go_wp2_with fail
      refine HN'.out.mono ?_
      rintro z w' ⟨rfl, hb⟩
      have HB := Lib.hid hb
      clear hb
      go_wp2
      go_ret2
      exact ⟨rfl, HB.out⟩
end Go.Proofs.Ytkjnlgbpfpkjhaa
