/- The walk of IndexReverse. -/
import Derived.Test.YtkjnlgbpfpkjhaaB15
set_option linter.unusedSimpArgs false
set_option linter.unusedVariables false
namespace Go.Proofs.Ytkjnlgbpfpkjhaa
open Go.RowKit

set_option maxRecDepth 100000 in
set_option maxHeartbeats 1000000 in
theorem indexReverse_all (A : Option Addr) (n c : Nat) (f : Nat → Int) (w : World) (hA : IntsAt w A n f) (hn : n ≤ 9223372036854775807) :
    Calls Try.prog 3 #[.slice A n c] w fun z w' => z = .returned (.bool true) ∧ Below w.heap.size w w' := by
  rcases hp : prodO f n with _ | m
  · have HP := Lib.hid (Product_any A n c f w hA hn 0 (.inl ⟨hp, rfl⟩))
    have HR := Lib.hid (Reverse_none A n c f w hA hn hp)
    have HQ := Lib.hid (rReverse_none A n c f w hA hn hp)
    clear hA hp
    go_enter Try.func3, Try.ntmps3
    go_wp2_with fail
    refine HP.out.mono ?_
    rintro z w' ⟨rfl, rfl⟩
    go_wp2_with fail
    refine HR.out.mono ?_
    rintro z w' ⟨rfl, rfl⟩
    go_wp2_with fail
    refine HQ.out.mono ?_
    rintro z w' ⟨rfl, rfl⟩
    go_wp2_with fail
    refine (wakes_any _).mono ?_
    rintro z w1 ⟨rfl, hb⟩
    have HB := Lib.hid hb
    clear hb
    go_wp2_with fail
    refine (same_below none none 0 0 0 (fun _ => 0) _ (IntsAt.nil _ _ _) (IntsAt.nil _ _ _) (by omega)).mono ?_
    rintro z w2 ⟨rfl, hb⟩
    have HB2 := Lib.hid (HB.out.trans (hb.mono HB.out.size))
    clear hb
    go_wp2
    go_ret
    exact ⟨rfl, HB2.out⟩
  · have h1 := (prodTo_wt (prodO_some hp).2).2.1
    obtain ⟨p, rfl⟩ := Int.eq_ofNat_of_zero_le (show 0 ≤ m by omega)
    have HP := Lib.hid (Product_any A n c f w hA hn p (.inr hp))
    by_cases h2000 : (2000 : Int) < p
    · clear hA hp
      go_enter Try.func3, Try.ntmps3
      go_wp2_with fail
      refine HP.out.mono ?_
      rintro z w' ⟨rfl, rfl⟩
      go_wp2_with fail
      refine (wakes_any _).mono ?_
      rintro z w1 ⟨rfl, hb⟩
      have HB := Lib.hid hb
      clear hb
      go_wp2
      go_ret
      exact ⟨rfl, HB.out⟩
    · have HR := Lib.hid (Reverse_any A n c p f w hA hp)
      have HA := Lib.hid hA
      have HPP := Lib.hid hp
      clear hA hp
      go_enter Try.func3, Try.ntmps3
      go_wp2_with fail
      refine HP.out.mono ?_
      rintro z w' ⟨rfl, rfl⟩
      go_wp2_with fail
      refine HR.out.mono ?_
      rintro z w1 ⟨b1, rfl, hr1, hb1⟩
      have HR1 := Lib.hid hr1.ints
      have HB1 := Lib.hid hb1
      clear hr1 hb1
      go_wp2_with fail
      refine (rReverse_any A n c p f _ (HA.out.keep HB1.out) HPP.out).mono ?_
      rintro z w2 ⟨A2, c2, rfl, hr2, hb2⟩
      have HR2 := Lib.hid hr2
      have HR12 := Lib.hid (HR1.out.keep hb2)
      have HB2 := Lib.hid (HB1.out.trans (hb2.mono HB1.out.size))
      clear hr2 hb2 HR1 HB1
      go_wp2_with fail
      refine (wakes_any _).mono ?_
      rintro z w3 ⟨rfl, hb⟩
      have HR3 := Lib.hid (HR2.out.keep hb)
      have HR13 := Lib.hid (HR12.out.keep hb)
      have HB3 := Lib.hid (HB2.out.trans (hb.mono HB2.out.size))
      clear hb HR2 HR12 HB2
      go_wp2_with fail
      refine (same_below _ _ p _ _ _ _ HR13.out HR3.out (by omega)).mono ?_
      rintro z w4 ⟨rfl, hb⟩
      have HB4 := Lib.hid (HB3.out.trans (hb.mono HB3.out.size))
      clear hb
      go_wp2
      go_ret
      exact ⟨rfl, HB4.out⟩
end Go.Proofs.Ytkjnlgbpfpkjhaa
