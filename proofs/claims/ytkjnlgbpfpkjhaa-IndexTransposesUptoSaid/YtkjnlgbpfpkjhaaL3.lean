/- The walk of IndexTransposes. -/
import Derived.Test.YtkjnlgbpfpkjhaaB15
import Derived.Test.YtkjnlgbpfpkjhaaB16
import Derived.Test.YtkjnlgbpfpkjhaaB17
import Derived.Test.YtkjnlgbpfpkjhaaB18
set_option linter.unusedSimpArgs false
set_option linter.unusedVariables false
namespace Go.Proofs.Ytkjnlgbpfpkjhaa
open Go.RowKit

set_option maxRecDepth 100000 in
set_option maxHeartbeats 1000000 in
theorem indexTransposes_walk (A : Option Addr) (n c : Nat) (f g : Nat → Int) (R C : Int) (e : Int) (w : World) (hA : IntsAt w A n f) (hn : n ≤ 1048576) (hc : A = none → c = 0)
    (h21 : ∀ w, IntsAt w A n f → Calls Try.prog 21 #[.slice A n c, .int .i64 R, .int .i64 C] w fun z w' => ∃ B b, z = .returned (.tuple #[.slice B n b, .int .i64 e]) ∧ (B = A ∨ ∃ k, B = some ⟨k, 0, none⟩ ∧ w.heap.size ≤ k) ∧ IntsAt w' B n g ∧ Below w.heap.size w w')
    (h22 : ∀ w base A' c', RowAt w base A' n f → base ≤ w.heap.size → Calls Try.prog 22 #[.slice A' n c', .int .i64 R, .int .i64 C] w fun z w' => z = .returned (.int .i64 e) ∧ IntsAt w' A' n g ∧ Below base w w' ∧ (∀ B, (∀ b o, B = some ⟨b, o, none⟩ → ∀ b' o', A' = some ⟨b', o', none⟩ → b ≠ b') → IntsAt w B n g → IntsAt w' B n g)) :
    Calls Try.prog 6 #[.slice A n c, .int .i64 R, .int .i64 C] w fun z w' => z = .returned (.bool true) ∧ Below w.heap.size w w' := by
  have H21 := Lib.hid h21
  have H22 := Lib.hid h22
  have HA := Lib.hid hA
  have HC := Lib.hid hc
  clear h21 h22 hA hc
  by_cases h0 : n = 0
  · subst h0
    go_enter Try.func6, Try.ntmps6
    go_wp2_with (at_builtin; refine wpList_cat rfl _ _ rfl rfl A 0 c f rfl HA.out HC.out (by omega) ?_; intro A1 c1 w1 h1 h2)
    refine (H21.out _ (IntsAt.nil _ _ _)).mono ?_
    rintro z w2 ⟨B, b, rfl, _, hb, hb2⟩
    have HB2 := Lib.hid (h2.out.trans (hb2.mono h2.out.size))
    clear hb2 h1 h2
    go_wp2_with fail
    refine (H22.out w2 w.heap.size A1 c1 (.inl rfl) HB2.out.size).mono ?_
    rintro z w3 ⟨rfl, _, hb3, _⟩
    have HB3 := Lib.hid (HB2.out.trans hb3)
    clear hb3 HB2
    go_wp2_with fail
    refine (wakes_any _).mono ?_
    rintro z w4 ⟨rfl, hb4⟩
    have HB4 := Lib.hid (HB3.out.trans (hb4.mono HB3.out.size))
    clear hb4 HB3
    go_wp2_with fail
    refine (same_below _ _ 0 _ _ (fun _ => 0) _ (IntsAt.nil _ _ _) (IntsAt.nil _ _ _) (by omega)).mono ?_
    rintro z w5 ⟨rfl, hb5⟩
    have HB5 := Lib.hid (HB4.out.trans (hb5.mono HB4.out.size))
    clear hb5
    go_wp2
    go_ret
    exact ⟨rfl, HB5.out⟩
  · go_enter Try.func6, Try.ntmps6
    go_wp2_with (at_builtin; refine wpList_cat rfl _ _ rfl rfl A n c f rfl HA.out HC.out (by omega) ?_; intro A1 c1 w1 h1 h2)
    obtain ⟨b1, hb1, rfl, hr1⟩ := h1.out.resolve_left h0
    have HR1 := Lib.hid hr1
    have hl1 : b1 < w1.heap.size := World.block_lt_of_cell? _ _ (hr1 0 (by omega)).1
    have hla := HA.out.block (by omega)
    clear h1 hr1
    refine (H21.out _ (HA.out.keep h2.out)).mono ?_
    rintro z w2 ⟨B, b, rfl, hBB, hb, hb2⟩
    have HI2 := Lib.hid hb
    have HR2 := Lib.hid (HR1.out.keep hb2)
    have HB2 := Lib.hid (h2.out.trans (hb2.mono h2.out.size))
    have HD : Hid (∀ b o, B = some ⟨b, o, none⟩ → ∀ b' o', some (⟨b1, 0, none⟩ : Addr) = some ⟨b', o', none⟩ → b ≠ b') := Lib.hid (by
      intro k o hk b' o' hb'
      cases hb'
      rcases hBB with rfl | ⟨k', e2, hk'⟩
      · have := hla k o hk
        omega
      · rw [e2] at hk
        cases hk
        omega)
    clear hb hb2 h2 hBB HR1 hla
    go_wp2_with fail
    refine (H22.out w2 w.heap.size _ c1 (.inr ⟨b1, hb1, rfl, HR2.out⟩) HB2.out.size).mono ?_
    rintro z w3 ⟨rfl, hi3, hb3, hk3⟩
    have HI3 := Lib.hid hi3
    have HJ3 := Lib.hid (hk3 B HD.out HI2.out)
    have HB3 := Lib.hid (HB2.out.trans hb3)
    clear hi3 hb3 hk3 HB2 HI2 HR2 HD
    go_wp2_with fail
    refine (wakes_any _).mono ?_
    rintro z w4 ⟨rfl, hb4⟩
    have HI4 := Lib.hid (HI3.out.keep hb4)
    have HJ4 := Lib.hid (HJ3.out.keep hb4)
    have HB4 := Lib.hid (HB3.out.trans (hb4.mono HB3.out.size))
    clear hb4 HB3 HI3 HJ3
    go_wp2_with fail
    refine (same_below _ _ n _ _ g _ HI4.out HJ4.out (by omega)).mono ?_
    rintro z w5 ⟨rfl, hb5⟩
    have HB5 := Lib.hid (HB4.out.trans (hb5.mono HB4.out.size))
    clear hb5
    go_wp2
    go_ret
    exact ⟨rfl, HB5.out⟩

theorem indexTransposes_all (A : Option Addr) (n c : Nat) (f : Nat → Int) (R C : Int) (w : World) (hA : IntsAt w A n f) (hn : n ≤ 1048576) (hc : A = none → c = 0) :
    Calls Try.prog 6 #[.slice A n c, .int .i64 R, .int .i64 C] w fun z w' => z = .returned (.bool true) ∧ Below w.heap.size w w' := by
  by_cases h1 : R < 1 ∨ C < 1
  · refine indexTransposes_walk A n c f f R C 2 w hA hn hc (fun w h => (rTranspose_arg A n c R C w h1).mono fun z w' ⟨e1, e2⟩ => ?_) (fun w base A' c' h hb => (Transpose_arg A' n c' R C w h1).mono fun z w' ⟨e1, e2⟩ => ?_)
    · subst e2; exact ⟨A, c, e1, .inl rfl, h, Below.refl _ _⟩
    · subst e2; exact ⟨e1, h.ints, Below.refl _ _, fun B _ hB => hB⟩
  · have hR : 1 ≤ R := by omega
    have hC : 1 ≤ C := by omega
    by_cases h2 : R * C = n
    · obtain ⟨r, rfl⟩ := Int.eq_ofNat_of_zero_le (show 0 ≤ R by omega)
      obtain ⟨s, rfl⟩ := Int.eq_ofNat_of_zero_le (show 0 ≤ C by omega)
      have h3 : n = r * s := by rw [← Int.natCast_mul] at h2; omega
      have hn0 : 0 < n := by
        rw [h3]
        exact Nat.mul_pos (by omega) (by omega)
      refine indexTransposes_walk A n c f (turnT f r s) r s 0 w hA hn hc (fun w h => (rTranspose_ok A n c r s f w h (by omega) (by omega) hn h3).mono fun z w' ⟨b, e1, e2, e3, e4⟩ => ?_) (fun w base A' c' h hb => ?_)
      · exact ⟨_, _, e1, .inr ⟨b, rfl, e2⟩, e3.ints, e4⟩
      · obtain ⟨b1, hb1, rfl, hr1⟩ := h.resolve_left (by omega)
        refine (Transpose_ok b1 n c' r s f w hr1 (by omega) (by omega) hn h3).mono fun z w' ⟨e1, e2, e3⟩ => ⟨e1, e2.ints, e3.below hb1 hb, fun B hB h => h.only' e3 (fun _ b o e => hB b o e b1 0 rfl)⟩
    · refine indexTransposes_walk A n c f f R C 4 w hA hn hc (fun w h => (rTranspose_len A n c R C w hR hC hn h2).mono fun z w' ⟨e1, e2⟩ => ?_) (fun w base A' c' h hb => (Transpose_len A' n c' R C w hR hC hn h2).mono fun z w' ⟨e1, e2⟩ => ?_)
      · subst e2; exact ⟨A, c, e1, .inl rfl, h, Below.refl _ _⟩
      · subst e2; exact ⟨e1, h.ints, Below.refl _ _, fun B _ hB => hB⟩
end Go.Proofs.Ytkjnlgbpfpkjhaa
