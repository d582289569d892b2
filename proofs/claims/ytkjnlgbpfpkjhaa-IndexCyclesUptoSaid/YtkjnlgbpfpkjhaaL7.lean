/- The walk of IndexCycles. -/
import Derived.Test.YtkjnlgbpfpkjhaaB15
import Derived.Test.YtkjnlgbpfpkjhaaB18
import Derived.Test.YtkjnlgbpfpkjhaaB22
import Derived.Deep.RegionWith
set_option linter.unusedSimpArgs false
set_option linter.unusedVariables false
namespace Go.Proofs.Ytkjnlgbpfpkjhaa
open Go.RowKit

set_option maxRecDepth 100000 in
set_option maxHeartbeats 1000000 in
theorem indexCycles_good (A : Option Addr) (n c : Nat) (p : Nat → Int) (w : World) (hA : IntsAt w A n p) (hn : n ≤ 1000000000) (hp : Perm p n) :
    Calls Try.prog 4 #[.slice A n c] w fun z w' => z = .returned (.bool true) ∧ Below w.heap.size w w' := by
  have HA := Lib.hid hA
  have HP := Lib.hid hp
  have hsl := starts_le p n
  clear hA hp
  go_enter Try.func4, Try.ntmps4
  go_wp2_with fail
  refine (Cycles_good A n c p w HA.out hn HP.out).mono ?_
  rintro z w1 ⟨A1, c1, v1, us1, rfl, rfl, ho1, hd1, hb1⟩
  have HO1 := Lib.hid ho1
  have HD1 := Lib.hid hd1
  have HB1 := Lib.hid hb1
  clear ho1 hd1 hb1
  go_wp2_with fail
  refine (rCycles_good A n c p w1 (HA.out.keep HB1.out) hn HP.out).mono ?_
  rintro z w2 ⟨A2, c2, v2, us2, rfl, rfl, ho2, hd2, hb2⟩
  have HO2 := Lib.hid (HO1.out.below hb2)
  have HD2 := Lib.hid (HD1.out.below hb2)
  have HB2 := Lib.hid (HB1.out.trans (hb2.mono HB1.out.size))
  have HQ2 := Lib.hid ho2
  have HE2 := Lib.hid hd2
  clear ho2 hd2 hb2 HO1 HD1 HB1
  go_wp2_with fail
  refine (wakes_any w2).mono ?_
  rintro z w3 ⟨rfl, hb3⟩
  have HO3 := Lib.hid (HO2.out.below hb3)
  have HD3 := Lib.hid (HD2.out.below hb3)
  have HQ3 := Lib.hid (HQ2.out.below hb3)
  have HE3 := Lib.hid (HE2.out.below hb3)
  have HB3 := Lib.hid (HB2.out.trans (hb3.mono HB2.out.size))
  clear hb3 HO2 HD2 HQ2 HE2 HB2
  go_wp2_with fail
  go_loopw [7, 34] (fun q i wr => ∃ j : Nat, j ≤ (starts p n).length ∧ i = .int .i64 j ∧ Hid (Below w3.heap.size w3 wr)) (fun _ i _ => (starts p n).length - (intOf i).toNat)
  case atStart => exact ⟨0, by omega, rfl, Lib.hid (Below.refl _ _)⟩
  case round =>
    obtain ⟨j, hj, rfl, hb⟩ := hrel
    by_cases hlt : j < (starts p n).length
    · obtain ⟨x, hx⟩ : ∃ x, (starts p n)[j]? = some x := ⟨_, List.getElem?_eq_getElem hlt⟩
      have HO4 := Lib.hid (HO3.out.below hb.out)
      have HQ4 := Lib.hid (HQ3.out.below hb.out)
      have HD4 := Lib.hid (HD3.out.below hb.out)
      have HE4 := Lib.hid (HE3.out.below hb.out)
      have hxn := starts_lt hx
      have hper := per_le HP.out hxn
      obtain ⟨u1, e1, k1⟩ := HD4.out.2 j x hx
      obtain ⟨u2, e2, k2⟩ := HE4.out.2 j x hx
      obtain ⟨B1, d1, rfl⟩ := k1.form
      obtain ⟨B2, d2, rfl⟩ := k2.form
      obtain ⟨b1, rfl, m1⟩ := HO4.out.cells e1
      obtain ⟨b2, rfl, m2⟩ := HQ4.out.cells e2
      have J1 := Lib.hid k1.intsOf
      have J2 := Lib.hid k2.intsOf
      have hji : (j : Int) < (starts p n).length := by omega
      clear k1 k2 e1 e2 hx HO4 HQ4 HD4 HE4
      go_wp2_with fail
      have HB4 := Lib.hid (hb.out.trans ((below_drewN wr 1).mono hb.out.size))
      have J1' := Lib.hid (J1.out.keep (below_drewN wr 1))
      have J2' := Lib.hid (J2.out.keep (below_drewN wr 1))
      go_region_with (go_at_call 14; refine (same_below _ _ (per p x) _ _ _ _ J1'.out J2'.out (by omega)).mono ?_; rintro z w5 ⟨rfl, hb5⟩; have HB5 := Lib.hid (HB4.out.trans (hb5.mono HB4.out.size)); clear hb5)
      all_goals
        go_wp2
        exact ⟨⟨j + 1, by omega, by go_num, by assumption⟩, by simp [intOf]; omega⟩
    · obtain rfl : (starts p n).length = j := by omega
      go_wp2
      go_ret
      exact ⟨rfl, HB3.out.trans (hb.out.mono HB3.out.size)⟩
set_option maxRecDepth 100000 in
set_option maxHeartbeats 1000000 in
theorem indexCycles_bad (A : Option Addr) (n c : Nat) (p : Nat → Int) (w : World) (hA : IntsAt w A n p) (hn : n ≤ 1000000000) (hp : ¬ Perm p n) :
    Calls Try.prog 4 #[.slice A n c] w fun z w' => z = .returned (.bool true) ∧ Below w.heap.size w w' := by
  have HA := Lib.hid hA
  have HP := Lib.hid hp
  clear hA hp
  go_enter Try.func4, Try.ntmps4
  go_wp2_with fail
  refine (Cycles_bad A n c p w HA.out hn HP.out).mono ?_
  rintro z w1 ⟨rfl, hb1⟩
  have HB1 := Lib.hid hb1
  clear hb1
  go_wp2_with fail
  refine (rCycles_bad A n c p w1 (HA.out.keep HB1.out) hn HP.out).mono ?_
  rintro z w2 ⟨rfl, hb2⟩
  have HB2 := Lib.hid (HB1.out.trans (hb2.mono HB1.out.size))
  clear hb2 HB1
  go_wp2_with fail
  refine (wakes_any w2).mono ?_
  rintro z w3 ⟨rfl, hb3⟩
  have HB3 := Lib.hid (HB2.out.trans (hb3.mono HB2.out.size))
  clear hb3 HB2
  go_wp2_with fail
  go_loopw [7, 34] (fun q i wr => i = .int .i64 0 ∧ wr = w3) (fun _ _ _ => 0)
  case atStart => exact ⟨rfl, rfl⟩
  case round =>
    obtain ⟨rfl, rfl⟩ := hrel
    go_wp2
    go_ret
    exact ⟨rfl, HB3.out⟩

theorem indexCycles_all (A : Option Addr) (n c : Nat) (p : Nat → Int) (w : World) (hA : IntsAt w A n p) (hn : n ≤ 1048576) :
    Calls Try.prog 4 #[.slice A n c] w fun z w' => z = .returned (.bool true) ∧ Below w.heap.size w w' := by
  by_cases h : Perm p n
  · exact indexCycles_good A n c p w hA (by omega) h
  · exact indexCycles_bad A n c p w hA (by omega) h
end Go.Proofs.Ytkjnlgbpfpkjhaa
