/- The contract of the document's Reverse. -/
import Derived.Test.YtkjnlgbpfpkjhaaB10
set_option linter.unusedSimpArgs false
set_option linter.unusedVariables false
namespace Go.Proofs.Ytkjnlgbpfpkjhaa
open Go.RowKit

theorem below_drewN (w : World) (m : Nat) : Below w.heap.size w (w.drewN m) := ⟨rfl, rfl, rfl, Nat.le_refl _, fun _ _ => rfl⟩

theorem Own.below {w w' : World} {base n : Nat} {v : Value} {g : Nat → Int} (h : Own w base v n g) (hb : Below w.heap.size w w') : Own w' base v n g := by
  have hg : w.grownBy w' none := ⟨hb.os, hb.tape, hb.output, hb.size, fun k hk _ => hb.block k hk⟩
  refine World.ownsRow.kept h hg ?_
  rcases v.ownBlock with _ | _
  · exact .inl rfl
  · exact .inr (by simp)

set_option maxRecDepth 100000 in
theorem rReverse_none (A : Option Addr) (n c : Nat) (f : Nat → Int) (w : World) (hA : IntsAt w A n f) (hn : n ≤ 9223372036854775807) (h : prodO f n = none) :
    Calls Try.prog 13 #[.slice A n c] w fun z w' => z = .returned (.tuple #[.slice none 0 0, .int .i64 2]) ∧ w = w' := by
  have HP := Lib.hid (Product_any A n c f w hA hn 0 (.inl ⟨h, rfl⟩))
  clear hA h
  go_enter Try.func13, Try.ntmps13
  go_wp2_with fail
  refine HP.out.mono ?_
  rintro z w' ⟨rfl, rfl⟩
  go_wp2
  go_ret2
  exact ⟨rfl, rfl⟩

set_option maxRecDepth 100000 in
set_option maxHeartbeats 2000000 in
theorem rReverse_any (A : Option Addr) (n c p : Nat) (f : Nat → Int) (w : World) (hA : IntsAt w A n f) (h : prodO f n = some (p : Int)) :
    Calls Try.prog 13 #[.slice A n c] w fun z w' => ∃ A' c', z = .returned (.tuple #[.slice A' p c', .int .i64 0]) ∧ IntsAt w' A' p (fun x => revF f n x) ∧ Below w.heap.size w w' := by
  obtain ⟨h30, h'⟩ := prodO_some h
  have h1 : (1 : Int) ≤ p := (prodTo_wt h').2.1
  have h3 : (p : Int) ≤ 1048576 := (prodTo_wt h').2.2.1
  have h2 : ((p : Int) == 0) = false := by simp; omega
  have HP := Lib.hid (Product_any A n c f w hA (by omega) p (.inr h))
  have HH := Lib.hid h'
  have HO := Lib.hid h
  have HA := Lib.hid hA
  have HRO : Hid (prodO (rev f n) n = some (p : Int)) := Lib.hid (by unfold prodO; rw [if_neg (by omega)]; exact prodTo_rev h')
  clear hA h h'
  go_enter Try.func13, Try.ntmps13
  go_wp2_with fail
  refine HP.out.mono ?_
  rintro z w' ⟨rfl, rfl⟩
  go_wp2_with fail
  refine (turned_any _ _ _ _ _ HA.out h30).mono ?_
  rintro z w1 ⟨A1, c1, rfl, hr1, hb1⟩
  have HR1 : Hid (IntsAt w1 A1 n (rev f n)) := Lib.hid hr1
  have HB1 := Lib.hid hb1
  clear hr1 hb1
  go_wp2
  have HA1 := Lib.hid (HA.out.keep HB1.out)
  have hz1 := HB1.out.size
  go_loopw [6, 7, 8, 9, 10, 11] (fun v i s8 s9 s10 s11 wr => ∃ k : Nat, k ≤ p ∧ i = .int .i64 k ∧ Hid (Own wr w1.heap.size v k (fun x => revF f n x)) ∧ Hid (Below w1.heap.size w1 wr)) (fun _ i _ _ _ _ _ => p - (intOf i).toNat)
  case atStart => exact ⟨0, by omega, rfl, Lib.hid (Own.nil _ _ _), Lib.hid (Below.refl _ _)⟩
  case round =>
    obtain ⟨k, hk, rfl, ho, hb⟩ := hrel
    by_cases hlt : k < p
    · have HDD := Lib.hid (rDigits_yes (k : Int) p A n c f wr (HA1.out.keep hb.out) HO.out (by omega) (by omega))
      have hz := hb.out.size
      go_wp2_with fail
      refine HDD.out.mono ?_
      rintro z w3 ⟨A3, c3, rfl, hr3, hb3⟩
      have HR3 := Lib.hid hr3
      have HB3 := Lib.hid hb3
      clear hr3 hb3 HDD
      go_wp2_with fail
      refine (turned_any _ _ _ _ _ HR3.out h30).mono ?_
      rintro z w4 ⟨A4, c4, rfl, hr4, hb4⟩
      have HR4 : Hid (IntsAt w4 A4 n (rev (dig f k) n)) := Lib.hid hr4
      have HB4 := Lib.hid (HB3.out.trans (hb4.mono HB3.out.size))
      clear hr4 hb4 HR3 HB3
      have HN := Lib.hid (rNumber_any A4 A1 n c4 c1 p (revF f n k) 0 _ _ w4 HR4.out ((HR1.out.keep hb.out).keep HB4.out) HRO.out (.inr ⟨fit_rev (fun i hi => dig_bd (x := (k : Int)) (prodTo_wt HH.out).2.2.2.1 hi), rfl, rfl⟩))
      go_wp2_with fail
      refine HN.out.mono ?_
      rintro z w5 ⟨rfl, m5, hm5⟩
      have HB5 : Hid (Below wr.heap.size wr w5) := Lib.hid (HB4.out.trans ((by subst hm5; exact below_drewN w4 m5 : Below w4.heap.size w4 w5).mono HB4.out.size))
      clear hm5 HB4 HR4 HN
      have HO5 : Hid (Own w5 w1.heap.size u6 k (fun x => revF f n x)) := Lib.hid (Own.below ho.out HB5.out)
      have HB6 : Hid (Below w1.heap.size w1 w5) := Lib.hid (hb.out.trans (HB5.out.mono hb.out.size))
      have hz6 := HB6.out.size
      clear HB5
      go_wp2_with (at_builtin; refine wpList_app rfl _ _ rfl w1.heap.size _ k (fun x => revF f n x) rfl (HO5.out.alloc _) _ _ _ rfl (by simp [go_sem]) rfl (by omega) (by simp; omega) ?_; intro v' w' h1' h2'; have hbw : Hid (Below w1.heap.size w1 w') := Lib.hid ((HO5.out.alloc _).grow (HB6.out.alloc HB6.out.size _) h2'.out (by simp; omega)))
      go_roundw
      case rel => exact ⟨k + 1, by omega, by go_num, h1', hbw⟩
      case measure => simp [intOf]; omega
    · obtain rfl : k = p := by omega
      obtain ⟨A', c', rfl, e1, e2, e3⟩ := ho.out.ints
      clear e2 e3
      have H1 := Lib.hid e1
      clear e1
      go_wp2
      go_ret2
      exact ⟨_, _, rfl, H1.out, HB1.out.trans (hb.out.mono hz1)⟩
end Go.Proofs.Ytkjnlgbpfpkjhaa
