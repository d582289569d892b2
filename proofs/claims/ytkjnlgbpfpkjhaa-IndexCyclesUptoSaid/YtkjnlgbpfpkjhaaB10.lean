/- The contract of Reverse. -/
import Derived.Test.YtkjnlgbpfpkjhaaP2
import Derived.Test.YtkjnlgbpfpkjhaaB7
import Derived.Test.YtkjnlgbpfpkjhaaB8
import Derived.Test.YtkjnlgbpfpkjhaaB9
set_option linter.unusedSimpArgs false
set_option linter.unusedVariables false
namespace Go.Proofs.Ytkjnlgbpfpkjhaa
open Go.RowKit

theorem RowAt.ints {w : World} {base n : Nat} {A : Option Addr} {f : Nat → Int} (h : RowAt w base A n f) : IntsAt w A n f := by
  rcases h with rfl | ⟨b, _, rfl, hr⟩
  · exact IntsAt.nil _ _ _
  · exact hr.ints

theorem reverse_any (A : Option Addr) (base n c : Nat) (f : Nat → Int) (w : World) (hA : RowAt w base A n f) (hn : n ≤ 17592186044416) (hb : base ≤ w.heap.size) :
    Calls Try.prog 28 #[.slice A n c] w fun z w' => z = .returned (.tuple #[]) ∧ RowAt w' base A n (rev f n) ∧ Below base w w' := by
  by_cases h0 : n = 0
  · subst h0
    exact (reverse_nil A c w).mono fun z w' ⟨h1, h2⟩ => ⟨h1, .inl rfl, by subst h2; exact Below.refl _ _⟩
  · rcases hA with h | ⟨b, hb1, rfl, hr⟩
    · exact absurd h h0
    · exact (reverse_row b n c f w hr hn (by omega)).mono fun z w' ⟨h1, h2, h3⟩ => ⟨h1, .inr ⟨b, hb1, rfl, h2⟩, h3.below hb1 hb⟩

theorem IntsAt.only' {W w1 : World} {c n : Nat} {A : Option Addr} {f : Nat → Int} (ho : OnlyB c W w1) (hbc : 0 < n → ∀ b o, A = some ⟨b, o, none⟩ → b ≠ c) (h : IntsAt W A n f) : IntsAt w1 A n f := by
  by_cases h0 : n = 0
  · subst h0; exact IntsAt.nil _ _ _
  · exact h.only ho (hbc (by omega))

set_option maxRecDepth 100000 in
theorem Reverse_none (A : Option Addr) (n c : Nat) (f : Nat → Int) (w : World) (hA : IntsAt w A n f) (hn : n ≤ 9223372036854775807) (h : prodO f n = none) :
    Calls Try.prog 12 #[.slice A n c] w fun z w' => z = .returned (.tuple #[.slice none 0 0, .int .i64 2]) ∧ w = w' := by
  have HP := Lib.hid (product_any A n c f w hA hn 0 2 (.inl ⟨h, rfl, rfl⟩))
  clear hA h
  go_enter Try.func12, Try.ntmps12
  go_wp2_with fail
  refine HP.out.mono ?_
  rintro z w' ⟨rfl, rfl⟩
  go_wp2
  go_ret2
  exact ⟨rfl, rfl⟩

set_option maxRecDepth 100000 in
set_option maxHeartbeats 2000000 in
theorem Reverse_any (A : Option Addr) (n c p : Nat) (f : Nat → Int) (w : World) (hA : IntsAt w A n f) (h : prodO f n = some (p : Int)) :
    Calls Try.prog 12 #[.slice A n c] w fun z w' => ∃ b, z = .returned (.tuple #[.slice (some ⟨b, 0, none⟩) p p, .int .i64 0]) ∧ Row w' b p (fun x => revF f n x) ∧ Below w.heap.size w w' := by
  obtain ⟨h30, h'⟩ := prodO_some h
  have h1 : (1 : Int) ≤ p := (prodTo_wt h').2.1
  have h3 : (p : Int) ≤ 1048576 := (prodTo_wt h').2.2.1
  have HP := Lib.hid (product_any A n c f w hA (by omega) p 0 (.inr ⟨h, rfl⟩))
  have HH := Lib.hid h'
  have HA := Lib.hid hA
  have hmk := mk22 p (by omega)
  clear hA h h'
  go_enter Try.func12, Try.ntmps12
  go_wp2_with fail
  refine HP.out.mono ?_
  rintro z w' ⟨rfl, rfl⟩
  go_wp2_with fail
  refine (clone_any _ _ _ _ _ HA.out (by omega)).mono ?_
  rintro z w1 ⟨A1, c1, rfl, hr1, hb1⟩
  have HR1 := Lib.hid hr1
  have HB1 := Lib.hid hb1
  clear hr1 hb1
  go_wp2_with fail
  refine (reverse_any _ _ _ _ _ _ HR1.out (by omega) HB1.out.size).mono ?_
  rintro z w2 ⟨rfl, hr2, hb2⟩
  have HR2 := Lib.hid hr2
  have HB2 := Lib.hid (HB1.out.trans hb2)
  clear hr2 hb2 HR1 HB1
  have HI2 := Lib.hid HR2.out.ints
  have HT : Hid (0 < n → ∀ b o, A1 = some ⟨b, o, none⟩ → b < w2.heap.size) := Lib.hid (fun h => HI2.out.block h)
  have HT0 : Hid (0 < n → ∀ b o, A = some ⟨b, o, none⟩ → b < w2.heap.size) := Lib.hid (fun h b o e => by
    have := HA.out.block h b o e
    have := HB2.out.size
    omega)
  have hz2 := HB2.out.size
  go_wp2
  go_loopw [8, 9, 26] (fun q d i wr => ∃ k : Nat, k ≤ p ∧ i = .int .i64 k ∧ Hid (Row wr w2.heap.size p (fun x => if x < k then revF f n x else 0)) ∧ Hid (IntsAt wr A n f) ∧ Hid (IntsAt wr A1 n (rev f n)) ∧ Hid (Below w.heap.size w wr) ∧ Hid (w2.heap.size < wr.heap.size)) (fun _ _ i _ => p - (intOf i).toNat)
  case atStart => exact ⟨0, by omega, rfl, Lib.hid ((zs_row p w2).congr fun i hi => by simp), Lib.hid ((HA.out.keep HB2.out).alloc _), Lib.hid (HI2.out.alloc _), Lib.hid (HB2.out.alloc HB2.out.size _), Lib.hid (by simp)⟩
  case round =>
    obtain ⟨k, hk, rfl, hr, ha, ht, hb, hs⟩ := hrel
    by_cases hlt : k < p
    · have HDD := Lib.hid (digits_any (k : Int) A n c f wr ha.out h30 (rad_le HH.out) (by omega) (by omega))
      have hz := hb.out.size
      go_wp2_with fail
      refine HDD.out.mono ?_
      rintro z w3 ⟨rfl, hr3, hb3⟩
      have HR3 := Lib.hid hr3
      have HB3 := Lib.hid hb3
      clear hr3 hb3 HDD
      go_wp2_with fail
      refine (reverse_any _ wr.heap.size n n _ _ (.inr ⟨_, Nat.le_refl _, rfl, HR3.out⟩) (by omega) HB3.out.size).mono ?_
      rintro z w4 ⟨rfl, hr4, hb4⟩
      have HR4 := Lib.hid hr4
      have HB4 := Lib.hid (HB3.out.trans hb4)
      clear hr4 hb4 HR3 HB3
      have HN := Lib.hid (number_any _ A1 n n c1 _ _ w4 HR4.out.ints (ht.out.keep HB4.out) h30 p (prodTo_rev HH.out) (fit_rev (fun i hi => dig_bd (x := (k : Int)) (prodTo_wt HH.out).2.2.2.1 hi)))
      go_wp2_with fail
      refine HN.out.mono ?_
      rintro z w5 ⟨rfl, hb5⟩
      have HB5 := Lib.hid (HB4.out.trans (hb5.mono HB4.out.size))
      clear hb5 HB4 HR4 HN
      obtain ⟨r1, r2⟩ := (hr.out.keep HB5.out) k hlt
      have hset := (hr.out.keep HB5.out).set hlt (revF f n k)
      have HS : Hid (Row (w5.setCell ⟨w2.heap.size, k, none⟩ (.int .i64 (revF f n k))) w2.heap.size p (fun x => if x < k + 1 then revF f n x else 0)) := Lib.hid (hset.congr fun i hi => by
        unfold upd
        by_cases e : i = k
        · rw [if_pos e, if_pos (by omega), e]
        · rw [if_neg e]
          by_cases e2 : i < k
          · simp [e2, show i < k + 1 from by omega]
          · simp [e2, show ¬ i < k + 1 from by omega])
      have HO : Hid (OnlyB w2.heap.size w5 (w5.setCell ⟨w2.heap.size, k, none⟩ (.int .i64 (revF f n k)))) := Lib.hid ((OnlyB.refl _ _).setCell _ _ _)
      have HA5 := Lib.hid ((ha.out.keep HB5.out).only' HO.out (fun h b o e => by have := HT0.out h b o e; omega))
      have HT5 := Lib.hid ((ht.out.keep HB5.out).only' HO.out (fun h b o e => by have := HT.out h b o e; omega))
      have HB6 : Hid (Below w.heap.size w w5) := Lib.hid (hb.out.trans (HB5.out.mono hb.out.size))
      have HB7 := Lib.hid (HB6.out.setCell (p := ⟨w2.heap.size, k, none⟩) hz2 (.int .i64 (revF f n k)))
      have HZ := Lib.hid (Nat.lt_of_lt_of_le hs.out HB5.out.size)
      clear hset
      go_wp2
      go_roundw
      case rel => exact ⟨k + 1, by omega, by go_num, HS, HA5, HT5, HB7, Lib.hid (by simpa using HZ.out)⟩
      case measure => simp [intOf]; omega
    · obtain rfl : k = p := by omega
      have HR : Hid (Row wr w2.heap.size k (fun x => revF f n x)) := Lib.hid (hr.out.congr fun i hi => by simp [hi])
      go_wp2
      go_ret2
      exact ⟨_, rfl, HR.out, hb.out⟩
end Go.Proofs.Ytkjnlgbpfpkjhaa
