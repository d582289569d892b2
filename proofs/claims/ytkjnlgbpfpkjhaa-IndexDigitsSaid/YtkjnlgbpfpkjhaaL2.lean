/- The walk of IndexDigits. -/
import Derived.Test.YtkjnlgbpfpkjhaaB15
set_option linter.unusedSimpArgs false
set_option linter.unusedVariables false
namespace Go.Proofs.Ytkjnlgbpfpkjhaa
open Go.RowKit

set_option maxRecDepth 100000 in
set_option maxHeartbeats 1000000 in
theorem indexDigits_walk (x : Int) (A A' : Option Addr) (n c n' c' : Nat) (f d : Nat → Int) (w : World) (m : Nat) (g : Nat → Int) (e r e2 : Int) (hA : IntsAt w A n d) (hA' : IntsAt w A' n' f) (hm : m ≤ 9223372036854775807)
    (h17 : ∀ w, IntsAt w A' n' f → Calls Try.prog 17 #[.int .i64 x, .slice A' n' c'] w fun z w' => ∃ B b, z = .returned (.tuple #[.slice B m b, .int .i64 e]) ∧ IntsAt w' B m g ∧ Below w.heap.size w w')
    (h18 : ∀ w, IntsAt w A' n' f → Calls Try.prog 18 #[.int .i64 x, .slice A' n' c'] w fun z w' => ∃ B b, z = .returned (.tuple #[.slice B m b, .int .i64 e]) ∧ IntsAt w' B m g ∧ Below w.heap.size w w')
    (h19 : ∀ w, IntsAt w A n d → IntsAt w A' n' f → Calls Try.prog 19 #[.slice A n c, .slice A' n' c'] w fun z w' => z = .returned (.tuple #[.int .i64 r, .int .i64 e2]) ∧ Below w.heap.size w w')
    (h20 : ∀ w, IntsAt w A n d → IntsAt w A' n' f → Calls Try.prog 20 #[.slice A n c, .slice A' n' c'] w fun z w' => z = .returned (.tuple #[.int .i64 r, .int .i64 e2]) ∧ Below w.heap.size w w') :
    Calls Try.prog 5 #[.int .i64 x, .slice A n c, .slice A' n' c'] w fun z w' => z = .returned (.bool true) ∧ Below w.heap.size w w' := by
  have H17 := Lib.hid h17
  have H18 := Lib.hid h18
  have H19 := Lib.hid h19
  have H20 := Lib.hid h20
  have HA := Lib.hid hA
  have HA' := Lib.hid hA'
  clear h17 h18 h19 h20 hA hA'
  go_enter Try.func5, Try.ntmps5
  go_wp2_with fail
  refine (H17.out _ HA'.out).mono ?_
  rintro z w1 ⟨B1, b1, rfl, hi1, hb1⟩
  have HI1 := Lib.hid hi1
  have HB1 := Lib.hid hb1
  clear hi1 hb1
  go_wp2_with fail
  refine (H18.out _ (HA'.out.keep HB1.out)).mono ?_
  rintro z w2 ⟨B2, b2, rfl, hi2, hb2⟩
  have HI2 := Lib.hid hi2
  have HI12 := Lib.hid (HI1.out.keep hb2)
  have HB2 := Lib.hid (HB1.out.trans (hb2.mono HB1.out.size))
  clear hi2 hb2 HI1 HB1
  go_wp2_with fail
  refine (H19.out _ (HA.out.keep HB2.out) (HA'.out.keep HB2.out)).mono ?_
  rintro z w3 ⟨rfl, hb3⟩
  have HI3 := Lib.hid (HI2.out.keep hb3)
  have HI13 := Lib.hid (HI12.out.keep hb3)
  have HB3 := Lib.hid (HB2.out.trans (hb3.mono HB2.out.size))
  clear hb3 HI2 HI12 HB2
  go_wp2_with fail
  refine (H20.out _ (HA.out.keep HB3.out) (HA'.out.keep HB3.out)).mono ?_
  rintro z w4 ⟨rfl, hb4⟩
  have HI4 := Lib.hid (HI3.out.keep hb4)
  have HI14 := Lib.hid (HI13.out.keep hb4)
  have HB4 := Lib.hid (HB3.out.trans (hb4.mono HB3.out.size))
  clear hb4 HI3 HI13 HB3
  go_wp2_with fail
  refine (wakes_any _).mono ?_
  rintro z w5 ⟨rfl, hb5⟩
  have HI5 := Lib.hid (HI4.out.keep hb5)
  have HI15 := Lib.hid (HI14.out.keep hb5)
  have HB5 := Lib.hid (HB4.out.trans (hb5.mono HB4.out.size))
  clear hb5 HI4 HI14 HB4
  go_wp2_with fail
  refine (same_below _ _ m _ _ _ _ HI15.out HI5.out hm).mono ?_
  rintro z w6 ⟨rfl, hb6⟩
  have HB6 := Lib.hid (HB5.out.trans (hb6.mono HB5.out.size))
  clear hb6
  go_wp2
  go_ret
  exact ⟨rfl, HB6.out⟩

theorem indexDigits_all (x : Int) (A : Option Addr) (n c : Nat) (d : Nat → Int) (A' : Option Addr) (n' c' : Nat) (f : Nat → Int) (w : World) (hA : IntsAt w A n d) (hn : n ≤ 9223372036854775807) (hA' : IntsAt w A' n' f) (hn' : n' ≤ 9223372036854775807) :
    Calls Try.prog 5 #[.int .i64 x, .slice A n c, .slice A' n' c'] w fun z w' => z = .returned (.bool true) ∧ Below w.heap.size w w' := by
  have same : ∀ {w w' : World}, w = w' → Below w.heap.size w w' := fun h => by subst h; exact Below.refl _ _
  rcases hp : prodO f n' with _ | p
  · refine indexDigits_walk x A A' n c n' c' f d w 0 (fun _ => 0) 2 0 2 hA hA' (by omega)
      (fun w h => (Digits_none x A' n' c' f w h hn' hp).mono fun z w' ⟨h1, h2⟩ => ⟨none, 0, h1, IntsAt.nil _ _ _, same h2⟩)
      (fun w h => (rDigits_none x A' n' c' f w h hn' hp).mono fun z w' ⟨h1, h2⟩ => ⟨none, 0, h1, IntsAt.nil _ _ _, same h2⟩)
      (fun w h h' => (Number_none A A' n' n c c' f d w h' hn' hp).mono fun z w' ⟨h1, h2⟩ => ⟨h1, same h2⟩)
      (fun w h h' => (rNumber_none A A' n' n c c' f w h' hn' hp).mono fun z w' ⟨h1, h2⟩ => ⟨h1, same h2⟩)
  · -- what digits give
    have hD : ∃ (m : Nat) (g : Nat → Int) (e : Int), m ≤ 9223372036854775807 ∧
        (∀ w, IntsAt w A' n' f → Calls Try.prog 17 #[.int .i64 x, .slice A' n' c'] w fun z w' => ∃ B b, z = .returned (.tuple #[.slice B m b, .int .i64 e]) ∧ IntsAt w' B m g ∧ Below w.heap.size w w') ∧
        (∀ w, IntsAt w A' n' f → Calls Try.prog 18 #[.int .i64 x, .slice A' n' c'] w fun z w' => ∃ B b, z = .returned (.tuple #[.slice B m b, .int .i64 e]) ∧ IntsAt w' B m g ∧ Below w.heap.size w w') := by
      by_cases hx : x < 0 ∨ p ≤ x
      · exact ⟨0, fun _ => 0, 3, by omega, fun w h => (Digits_out x p A' n' c' f w h hn' hp hx).mono fun z w' ⟨h1, h2⟩ => ⟨none, 0, h1, IntsAt.nil _ _ _, same h2⟩,
          fun w h => (rDigits_out x p A' n' c' f w h hn' hp hx).mono fun z w' ⟨h1, h2⟩ => ⟨none, 0, h1, IntsAt.nil _ _ _, same h2⟩⟩
      · exact ⟨n', dig f x, 0, hn', fun w h => Digits_yes x p A' n' c' f w h hp (by omega) (by omega), fun w h => rDigits_yes x p A' n' c' f w h hp (by omega) (by omega)⟩
    obtain ⟨m, g, e, hm, h17, h18⟩ := hD
    have hN : ∃ (r e2 : Int), (∀ w, IntsAt w A n d → IntsAt w A' n' f → Calls Try.prog 19 #[.slice A n c, .slice A' n' c'] w fun z w' => z = .returned (.tuple #[.int .i64 r, .int .i64 e2]) ∧ Below w.heap.size w w') ∧
        (∀ w, IntsAt w A n d → IntsAt w A' n' f → Calls Try.prog 20 #[.slice A n c, .slice A' n' c'] w fun z w' => z = .returned (.tuple #[.int .i64 r, .int .i64 e2]) ∧ Below w.heap.size w w') := by
      by_cases hne : n = n'
      · subst hne
        by_cases hfit : Fit f d n
        · exact ⟨num f d n, 0, fun w h h' => Number_any A A' n c c' p _ _ f d w h h' hp (.inr ⟨hfit, rfl, rfl⟩),
            fun w h h' => (rNumber_any A A' n c c' p _ _ f d w h h' hp (.inr ⟨hfit, rfl, rfl⟩)).mono fun z w' ⟨h1, m, h2⟩ => ⟨h1, by subst h2; exact below_drewN w m⟩⟩
        · exact ⟨0, 3, fun w h h' => Number_any A A' n c c' p _ _ f d w h h' hp (.inl ⟨hfit, rfl, rfl⟩),
            fun w h h' => (rNumber_any A A' n c c' p _ _ f d w h h' hp (.inl ⟨hfit, rfl, rfl⟩)).mono fun z w' ⟨h1, m, h2⟩ => ⟨h1, by subst h2; exact below_drewN w m⟩⟩
      · exact ⟨0, 4, fun w h h' => (Number_len A A' n' n c c' p f w h' hn' hn hp hne).mono fun z w' ⟨h1, h2⟩ => ⟨h1, same h2⟩,
          fun w h h' => (rNumber_len A A' n' n c c' p f w h' hn' hn hp hne).mono fun z w' ⟨h1, h2⟩ => ⟨h1, same h2⟩⟩
    obtain ⟨r, e2, h19, h20⟩ := hN
    exact indexDigits_walk x A A' n c n' c' f d w m g e r e2 hA hA' hm h17 h18 h19 h20
end Go.Proofs.Ytkjnlgbpfpkjhaa
