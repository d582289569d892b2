/- The contracts of Digits and of the document's Digits, and of same. -/
import Derived.Test.YtkjnlgbpfpkjhaaB3
set_option linter.unusedSimpArgs false
set_option linter.unusedVariables false
namespace Go.Proofs.Ytkjnlgbpfpkjhaa
open Go.RowKit

set_option maxRecDepth 100000 in
theorem Digits_none (x : Int) (A : Option Addr) (n c : Nat) (f : Nat → Int) (w : World) (hA : IntsAt w A n f) (hn : n ≤ 9223372036854775807) (h : prodO f n = none) :
    Calls Try.prog 17 #[.int .i64 x, .slice A n c] w fun z w' => z = .returned (.tuple #[.slice none 0 0, .int .i64 2]) ∧ w = w' := by
  have HP := Lib.hid (product_any A n c f w hA hn 0 2 (.inl ⟨h, rfl, rfl⟩))
  clear hA h
  go_enter Try.func17, Try.ntmps17
  go_wp2_with fail
  refine HP.out.mono ?_
  rintro z w' ⟨rfl, rfl⟩
  go_wp2
  go_ret2
  exact ⟨rfl, rfl⟩

set_option maxRecDepth 100000 in
theorem Digits_out (x p : Int) (A : Option Addr) (n c : Nat) (f : Nat → Int) (w : World) (hA : IntsAt w A n f) (hn : n ≤ 9223372036854775807) (h : prodO f n = some p) (hx : x < 0 ∨ p ≤ x) :
    Calls Try.prog 17 #[.int .i64 x, .slice A n c] w fun z w' => z = .returned (.tuple #[.slice none 0 0, .int .i64 3]) ∧ w = w' := by
  have HP := Lib.hid (product_any A n c f w hA hn p 0 (.inr ⟨h, rfl⟩))
  clear hA h
  by_cases h0 : x < 0
  · clear hx
    go_enter Try.func17, Try.ntmps17
    go_wp2_with fail
    refine HP.out.mono ?_
    rintro z w' ⟨rfl, rfl⟩
    go_wp2
    go_ret2
    exact ⟨rfl, rfl⟩
  · have hx2 : p ≤ x := by omega
    clear hx
    go_enter Try.func17, Try.ntmps17
    go_wp2_with fail
    refine HP.out.mono ?_
    rintro z w' ⟨rfl, rfl⟩
    go_wp2
    go_ret2
    exact ⟨rfl, rfl⟩

theorem rad_le {f : Nat → Int} {n : Nat} {p : Int} (h : prodTo f n = some p) : ∀ i, i < n → 2 ≤ f i ∧ f i ≤ 1048576 := by
  intro i hi
  obtain ⟨_, _, h3, h4, h5⟩ := prodTo_wt h
  refine ⟨h4 i hi, ?_⟩
  have a := h5 i (by omega)
  have b := h5 (i + 1) (by omega)
  have e : wt f (i + 1) = wt f i * f i := rfl
  have := Int.mul_le_mul_of_nonneg_right a.1 (show 0 ≤ f i by have := h4 i hi; omega)
  omega

set_option maxRecDepth 100000 in
theorem Digits_yes (x p : Int) (A : Option Addr) (n c : Nat) (f : Nat → Int) (w : World) (hA : IntsAt w A n f) (h : prodO f n = some p) (hx : 0 ≤ x) (hx2 : x < p) :
    Calls Try.prog 17 #[.int .i64 x, .slice A n c] w fun z w' => ∃ A' c', z = .returned (.tuple #[.slice A' n c', .int .i64 0]) ∧ IntsAt w' A' n (dig f x) ∧ Below w.heap.size w w' := by
  obtain ⟨h30, h'⟩ := prodO_some h
  obtain ⟨-, -, h3, -, -⟩ := prodTo_wt h'
  have HP := Lib.hid (product_any A n c f w hA (by omega) p 0 (.inr ⟨h, rfl⟩))
  have HD := Lib.hid (digits_any x A n c f w hA h30 (rad_le h') hx (by omega))
  clear hA h h'
  go_enter Try.func17, Try.ntmps17
  go_wp2_with fail
  refine HP.out.mono ?_
  rintro z w' ⟨rfl, rfl⟩
  go_wp2_with fail
  refine HD.out.mono ?_
  rintro z w' ⟨rfl, hr, hb⟩
  have HR := Lib.hid hr
  have HB := Lib.hid hb
  clear hr hb
  go_wp2
  go_ret2
  exact ⟨_, _, rfl, HR.out.ints, HB.out⟩

set_option maxRecDepth 100000 in
theorem rDigits_none (x : Int) (A : Option Addr) (n c : Nat) (f : Nat → Int) (w : World) (hA : IntsAt w A n f) (hn : n ≤ 9223372036854775807) (h : prodO f n = none) :
    Calls Try.prog 18 #[.int .i64 x, .slice A n c] w fun z w' => z = .returned (.tuple #[.slice none 0 0, .int .i64 2]) ∧ w = w' := by
  have HP := Lib.hid (Product_any A n c f w hA hn 0 (.inl ⟨h, rfl⟩))
  clear hA h
  go_enter Try.func18, Try.ntmps18
  go_wp2_with fail
  refine HP.out.mono ?_
  rintro z w' ⟨rfl, rfl⟩
  go_wp2
  go_ret2
  exact ⟨rfl, rfl⟩

set_option maxRecDepth 100000 in
theorem rDigits_out (x p : Int) (A : Option Addr) (n c : Nat) (f : Nat → Int) (w : World) (hA : IntsAt w A n f) (hn : n ≤ 9223372036854775807) (h : prodO f n = some p) (hx : x < 0 ∨ p ≤ x) :
    Calls Try.prog 18 #[.int .i64 x, .slice A n c] w fun z w' => z = .returned (.tuple #[.slice none 0 0, .int .i64 3]) ∧ w = w' := by
  have HP := Lib.hid (Product_any A n c f w hA hn p (.inr h))
  obtain ⟨-, h1, -, -, -⟩ := prodTo_wt (prodO_some h).2
  have h2 : (p == 0) = false := by simp; omega
  clear hA h
  by_cases h0 : x < 0
  · clear hx
    go_enter Try.func18, Try.ntmps18
    go_wp2_with fail
    refine HP.out.mono ?_
    rintro z w' ⟨rfl, rfl⟩
    go_wp2
    go_ret2
    exact ⟨rfl, rfl⟩
  · have hx2 : p ≤ x := by omega
    clear hx
    go_enter Try.func18, Try.ntmps18
    go_wp2_with fail
    refine HP.out.mono ?_
    rintro z w' ⟨rfl, rfl⟩
    go_wp2
    go_ret2
    exact ⟨rfl, rfl⟩

set_option maxRecDepth 100000 in
set_option maxHeartbeats 1000000 in
theorem rDigits_yes (x p : Int) (A : Option Addr) (n c : Nat) (f : Nat → Int) (w : World) (hA : IntsAt w A n f) (h : prodO f n = some p) (hx : 0 ≤ x) (hx2 : x < p) :
    Calls Try.prog 18 #[.int .i64 x, .slice A n c] w fun z w' => ∃ A' c', z = .returned (.tuple #[.slice A' n c', .int .i64 0]) ∧ IntsAt w' A' n (dig f x) ∧ Below w.heap.size w w' := by
  obtain ⟨h30, h'⟩ := prodO_some h
  obtain ⟨-, h1, h3, -, -⟩ := prodTo_wt h'
  have h2 : (p == 0) = false := by simp; omega
  have HP := Lib.hid (Product_any A n c f w hA (by omega) p (.inr h))
  have HF := Lib.hid (rad_le h')
  have HA := Lib.hid hA
  clear hA h h'
  go_enter Try.func18, Try.ntmps18
  go_wp2_with fail
  refine HP.out.mono ?_
  rintro z w' ⟨rfl, rfl⟩
  go_wp2
  go_loopw [0, 7, 8] (fun a v i wr => ∃ (k : Nat) (y : Int), k ≤ n ∧ 0 ≤ y ∧ y ≤ 1048576 ∧ i = .int .i64 k ∧ a = .int .i64 y ∧ Hid (y = left f x k) ∧ Hid (Own wr w.heap.size v k (dig f x)) ∧ Hid (Below w.heap.size w wr)) (fun _ _ i _ => n - (intOf i).toNat)
  case atStart => exact ⟨0, x, by omega, hx, by omega, rfl, rfl, Lib.hid rfl, Lib.hid (Own.nil _ _ _), Lib.hid (Below.refl _ _)⟩
  case round =>
    obtain ⟨k, y, hk, hy1, hy2, rfl, rfl, hy, ho, hb⟩ := hrel
    by_cases hlt : k < n
    · obtain ⟨b, o, rfl, hc⟩ := HA.out.keep hb.out k hlt
      have hfk := HF.out k hlt
      have hy3 : Hid (y / f k = left f x (k + 1)) := Lib.hid (by rw [hy.out]; rfl)
      have hd : Hid (y % f k = dig f x k) := Lib.hid (by rw [hy.out]; rfl)
      have hq := Int.ediv_le_self (f k) hy1
      have hq0 := Int.ediv_nonneg hy1 (show 0 ≤ f k by omega)
      have hz := hb.out.size
      obtain ⟨v, hv⟩ : ∃ v, f k = v := ⟨_, rfl⟩
      rw [hv] at hc hfk hy3 hd hq hq0
      have HV := Lib.hid hv
      clear hv
      have hv1 : 2 ≤ v := hfk.1
      have hv2 : v ≤ 1048576 := hfk.2
      clear hfk
      go_wp2_with (at_builtin; refine wpList_app rfl _ _ rfl w.heap.size _ k (dig f x) rfl (ho.out.alloc _) _ _ _ rfl (by simp [go_sem]) hd.out (by omega) (by simp; omega) ?_; intro v' w' h1' h2'; have hbw : Hid (Below w.heap.size w w') := Lib.hid ((ho.out.alloc _).grow (hb.out.alloc hb.out.size _) h2'.out (by simp; omega)); obtain ⟨bb, oo, ee, hc'⟩ := HA.out.keep hbw.out k hlt; cases ee; rw [HV.out] at hc'; clear hc)
      go_roundw
      case rel => exact ⟨k + 1, y / v, by omega, by omega, by omega, by go_num, rfl, hy3, h1', hbw⟩
      case measure => simp [intOf]; omega
    · obtain rfl : k = n := by omega
      obtain ⟨A', c', rfl, e1, e2, e3⟩ := ho.out.ints
      clear e2 e3
      have H1 := Lib.hid e1
      clear e1
      go_wp2
      go_ret2
      exact ⟨_, _, rfl, H1.out, hb.out⟩

set_option maxRecDepth 100000 in
set_option maxHeartbeats 1000000 in
theorem same_yes (A A' : Option Addr) (n c c' : Nat) (f : Nat → Int) (w : World) (hA : IntsAt w A n f) (hA' : IntsAt w A' n f) (hn : n ≤ 9223372036854775807) :
    Calls Try.prog 14 #[.slice A n c, .slice A' n c'] w fun z w' => z = .returned (.bool true) ∧ ∃ k, w' = w.drewN k := by
  have HA := Lib.hid hA
  have HA' := Lib.hid hA'
  clear hA hA'
  go_enter Try.func14, Try.ntmps14
  go_wp2
  go_loopw [5, 13] (fun r i wr => ∃ k : Nat, k ≤ n ∧ i = .int .i64 k ∧ Hid (∃ m, wr = w.drewN m)) (fun _ i _ => n - (intOf i).toNat)
  case atStart => exact ⟨0, by omega, rfl, Lib.hid ⟨0, rfl⟩⟩
  case round =>
    obtain ⟨k, hk, rfl, hw⟩ := hrel
    by_cases hlt : k < n
    · obtain ⟨b, o, rfl, hc⟩ := HA.out k hlt
      obtain ⟨b', o', rfl, hc'⟩ := HA'.out k hlt
      obtain ⟨v, hv⟩ : ∃ v, f k = v := ⟨_, rfl⟩
      rw [hv] at hc hc'
      clear hv
      obtain ⟨m, hm⟩ := hw.out
      subst hm
      have h1 : (w.drewN m).cell? ⟨b, o + k, none⟩ = some (.int .i64 v) := hc
      have h2 : (w.drewN m).cell? ⟨b', o' + k, none⟩ = some (.int .i64 v) := hc'
      go_wp2_with fail
      go_quiet (fail)
      go_wp2
      go_roundw
      case rel => exact ⟨k + 1, by omega, by go_num, Lib.hid ⟨m + nq, rfl⟩⟩
      case measure => simp [intOf]; omega
    · obtain rfl : k = n := by omega
      go_wp2
      go_ret
      exact ⟨rfl, hw.out⟩
end Go.Proofs.Ytkjnlgbpfpkjhaa
