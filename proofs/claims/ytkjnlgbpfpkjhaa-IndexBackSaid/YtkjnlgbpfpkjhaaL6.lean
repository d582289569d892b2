/- The walk of IndexBack. -/
import Derived.Test.YtkjnlgbpfpkjhaaP6
import Derived.Test.YtkjnlgbpfpkjhaaB15
import Derived.Test.YtkjnlgbpfpkjhaaB17
set_option linter.unusedSimpArgs false
set_option linter.unusedVariables false
namespace Go.Proofs.Ytkjnlgbpfpkjhaa
open Go.RowKit

set_option maxRecDepth 100000 in
set_option maxHeartbeats 1000000 in
theorem back_none (A : Option Addr) (n c : Nat) (f : Nat → Int) (rows p : Int) (w : World) (hA : IntsAt w A n f) (hn : n ≤ 9223372036854775807) (h : (prodO f n = none ∧ p = 0) ∨ prodO f n = some p) (hp : p = 0 ∨ 2000 < p) :
    Calls Try.prog 7 #[.slice A n c, .int .i64 rows] w fun z w' => z = .returned (.bool true) ∧ Below w.heap.size w w' := by
  have HP := Lib.hid (Product_any A n c f w hA hn p h)
  clear h hA
  rcases hp with rfl | hp
  · go_enter Try.func7, Try.ntmps7
    go_wp2_with fail
    refine HP.out.mono ?_
    rintro z w' ⟨rfl, rfl⟩
    go_wp2_with fail
    refine (wakes_any _).mono ?_
    rintro z w1 ⟨rfl, hb1⟩
    have HB1 := Lib.hid hb1
    clear hb1
    go_wp2_with fail
    refine (wakes_any _).mono ?_
    rintro z w2 ⟨rfl, hb2⟩
    have HB2 := Lib.hid (HB1.out.trans (hb2.mono HB1.out.size))
    clear hb2
    go_wp2
    go_ret
    exact ⟨rfl, HB2.out⟩
  · have h0 : (p == 0) = false := by simp; omega
    go_enter Try.func7, Try.ntmps7
    go_wp2_with fail
    refine HP.out.mono ?_
    rintro z w' ⟨rfl, rfl⟩
    go_wp2_with fail
    refine (wakes_any _).mono ?_
    rintro z w1 ⟨rfl, hb1⟩
    have HB1 := Lib.hid hb1
    clear hb1
    go_wp2_with fail
    refine (wakes_any _).mono ?_
    rintro z w2 ⟨rfl, hb2⟩
    have HB2 := Lib.hid (HB1.out.trans (hb2.mono HB1.out.size))
    clear hb2
    go_wp2
    go_ret
    exact ⟨rfl, HB2.out⟩

set_option maxRecDepth 100000 in
set_option maxHeartbeats 8000000 in
theorem back_some (A : Option Addr) (n c p : Nat) (f : Nat → Int) (rows : Int) (w : World) (hA : IntsAt w A n f) (h : prodO f n = some (p : Int)) (hp : p ≤ 2000) :
    Calls Try.prog 7 #[.slice A n c, .int .i64 rows] w fun z w' => z = .returned (.bool true) ∧ Below w.heap.size w w' := by
  obtain ⟨h30, h'⟩ := prodO_some h
  have h1 : (1 : Int) ≤ p := (prodTo_wt h').2.1
  have h2 : ((p : Int) == 0) = false := by simp; omega
  have HP := Lib.hid (Product_any A n c f w hA (by omega) p (.inr h))
  have HH := Lib.hid h'
  have HO := Lib.hid h
  have HRO : Hid (prodO (rev f n) n = some (p : Int)) := Lib.hid (by unfold prodO; rw [if_neg (by omega)]; exact prodTo_rev h')
  have HA := Lib.hid hA
  clear h h' hA
  go_enter Try.func7, Try.ntmps7
  go_wp2_with fail
  refine HP.out.mono ?_
  rintro z w' ⟨rfl, rfl⟩
  go_wp2_with fail
  refine (wakes_any _).mono ?_
  rintro z w1 ⟨rfl, hb1⟩
  have HA1 := Lib.hid (HA.out.keep hb1)
  have HB1 := Lib.hid hb1
  clear hb1
  go_wp2
  go_loopw [6, 7] (fun v i wr => ∃ k : Nat, k ≤ n ∧ i = .int .i64 ((n : Int) - 1 - k) ∧ Hid (Own wr w1.heap.size v k (rev f n)) ∧ Hid (Below w1.heap.size w1 wr)) (fun _ i _ => (intOf i + 1).toNat)
  case atStart => exact ⟨0, by omega, by simp, Lib.hid (Own.nil _ _ _), Lib.hid (Below.refl _ _)⟩
  case round =>
    obtain ⟨k, hk, rfl, ho, hb⟩ := hrel
    by_cases hlt : k < n
    · obtain ⟨j, hj⟩ : ∃ j : Nat, j = n - 1 - k := ⟨_, rfl⟩
      have ej : (n : Int) - 1 - k = j := by omega
      have hjn : j < n := by omega
      rw [ej]
      obtain ⟨b, o, rfl, hc⟩ := HA1.out.keep hb.out j hjn
      have HJ := Lib.hid hj
      have EJ := Lib.hid ej
      have hz := hb.out.size
      clear ej hj
      go_wp2_with (at_builtin; refine wpList_app rfl _ _ rfl w1.heap.size _ k (rev f n) rfl (ho.out.alloc _) _ _ (f j) rfl (by simp [go_sem]) (by unfold rev; rw [HJ.out]) (by omega) (by simp; omega) ?_; intro v' w' h1 h2)
      go_roundw
      case rel => exact ⟨k + 1, by omega, by have := EJ.out; rw [show ((j : Int) - 1) = (n : Int) - 1 - ((k + 1 : Nat) : Int) from by omega], h1, Lib.hid ((ho.out.alloc _).grow (hb.out.alloc hb.out.size _) h2.out (by simp; omega))⟩
      case measure => have := EJ.out; simp [intOf]
    · obtain rfl : k = n := by omega
      rw [show ((k : Int) - 1 - k) = -1 from by omega]
      obtain ⟨AT, cT, rfl, ht, hT2, hT3⟩ := ho.out.ints
      have HT := Lib.hid ht
      have HA2 := Lib.hid (HA1.out.keep hb.out)
      have HB2 := Lib.hid (HB1.out.trans (hb.out.mono HB1.out.size))
      clear hT2 hT3 ht ho hb hlt hk HB1 HA1
      go_wp2_with fail
      refine (Reverse_any A k c p f _ HA2.out HO.out).mono ?_
      rintro z w3 ⟨bA, rfl, hra, hb3⟩
      have HRA := Lib.hid hra
      have HT3 := Lib.hid (HT.out.keep hb3)
      have HB3 := Lib.hid (HB2.out.trans (hb3.mono HB2.out.size))
      clear hra hb3 HT HA2 HB2
      go_wp2_with fail
      refine (Reverse_any AT k cT p (rev f k) _ HT3.out HRO.out).mono ?_
      rintro z w4 ⟨bB, rfl, hrb, hb4⟩
      have HRB := Lib.hid hrb
      have HRA4 := Lib.hid (HRA.out.keep hb4)
      have HB4 := Lib.hid (HB3.out.trans (hb4.mono HB3.out.size))
      clear hrb hb4 HT3 HRA HB3
      go_wp2
      go_loopw [12, 13, 71] (fun v q i wr => ∃ j : Nat, j ≤ p ∧ i = .int .i64 j ∧ Hid (Own wr w4.heap.size v j (fun x => 7 * (x : Int))) ∧ Hid (Below w4.heap.size w4 wr)) (fun _ _ i _ => p - (intOf i).toNat)
      case atStart => exact ⟨0, by omega, rfl, Lib.hid (Own.nil _ _ _), Lib.hid (Below.refl _ _)⟩
      case round =>
        obtain ⟨j, hj, rfl, ho, hb⟩ := hrel
        by_cases hlt : j < p
        · have hji : (j : Int) < p := by omega
          have ra := (HRA4.out.keep hb.out j hlt).1
          have hv := revF_bd HH.out (show (0 : Int) ≤ j by omega)
          have hw := revF_revF HH.out (show (0 : Int) ≤ j by omega) hji
          obtain ⟨y, hy⟩ := Int.eq_ofNat_of_zero_le hv.1
          have rb := (HRB.out.keep hb.out y (by omega)).1
          rw [hy] at ra hw hv
          rw [hw] at rb
          have hy1 : (y : Int) < p := hv.2
          have hz := hb.out.size
          clear hv hw hy
          go_wp2_with (at_builtin; refine wpList_app rfl _ _ rfl w4.heap.size _ j (fun x => 7 * (x : Int)) rfl (ho.out.alloc _) _ _ (7 * (j : Int)) rfl (by simp [go_sem]) rfl (by omega) (by simp; omega) ?_; intro v' w' h1 h2)
          go_roundw
          case rel => exact ⟨j + 1, by omega, by go_num, h1, Lib.hid ((ho.out.alloc _).grow (hb.out.alloc hb.out.size _) h2.out (by simp; omega))⟩
          case measure => simp [intOf]; omega
        · obtain rfl : j = p := by omega
          obtain ⟨AL, cL, rfl, hrl⟩ := ho.out.rowAt
          obtain ⟨bL, hbL, rfl, hRL⟩ := hrl.resolve_left (by omega)
          have HRL := Lib.hid hRL
          have HB5 := Lib.hid (HB4.out.trans (hb.out.mono HB4.out.size))
          have hz4 := HB4.out.size
          clear hrl hRL ho hb hlt hj HRA4 HRB HB4
          by_cases hr1 : rows < 1
          · go_wp2
            go_ret
            exact ⟨rfl, HB5.out⟩
          · have hm := Int.emod_nonneg (j : Int) (show rows ≠ 0 by omega)
            have hm2 := Int.emod_lt_of_pos (j : Int) (show 0 < rows by omega)
            have hd := Int.ediv_nonneg (show (0 : Int) ≤ j by omega) (show 0 ≤ rows by omega)
            have hd2 := Int.ediv_le_self rows (show (0 : Int) ≤ j by omega)
            by_cases hz0 : (j : Int) % rows = 0
            · have hb0 : ((j : Int) % rows != 0) = false := by rw [bne_eq_false_iff_eq]; exact hz0
              obtain ⟨R, rfl⟩ := Int.eq_ofNat_of_zero_le (show 0 ≤ rows by omega)
              obtain ⟨C, hC⟩ := Int.eq_ofNat_of_zero_le hd
              have hjRC : j = R * C := by
                have := Int.mul_ediv_add_emod (j : Int) (R : Int)
                rw [hz0, hC, ← Int.natCast_mul] at this
                omega
              have hC1 : 1 ≤ C := by
                rcases C with _ | C
                · rw [Nat.mul_zero] at hjRC; omega
                · omega
              have HJ := Lib.hid hjRC
              have HJ2 : Hid (j = C * R) := Lib.hid (by rw [hjRC, Nat.mul_comm])
              clear hz0 hjRC
              go_wp2_with fail
              refine (Transpose_ok bL j cL R C _ _ HRL.out (by omega) hC1 (by omega) HJ.out).mono ?_
              rintro z w6 ⟨rfl, hr6, ho6⟩
              have HR6 := Lib.hid hr6
              have HB6 : Hid (Below w.heap.size w w6) := Lib.hid (HB5.out.trans (ho6.below (by omega) HB5.out.size))
              clear hr6 ho6 HRL HB5
              go_wp2_with fail
              refine (Transpose_ok bL j cL C R _ _ HR6.out hC1 (by omega) (by omega) HJ2.out).mono ?_
              rintro z w7 ⟨rfl, hr7, ho7⟩
              have HR7 : Hid (Row w7 bL j (fun x => 7 * (x : Int))) := Lib.hid (hr7.congr fun i hi => turnT_turnT _ (by rw [← HJ.out]; exact hi))
              have HB7 : Hid (Below w.heap.size w w7) := Lib.hid (HB6.out.trans (ho7.below (by omega) HB6.out.size))
              clear hr7 ho7 HR6 HB6
              go_wp2
              go_loop [14, 129] (fun q i => ∃ x : Nat, x ≤ j ∧ i = .int .i64 x) (fun _ i => j - (intOf i).toNat)
              case atStart => exact ⟨0, by omega, rfl⟩
              case round =>
                obtain ⟨x, hx, rfl⟩ := hrel
                by_cases hlt : x < j
                · have hxi : (x : Int) < j := by omega
                  have r1 := (HR7.out x hlt).1
                  go_wp2
                  go_round
                  case rel => exact ⟨x + 1, by omega, by go_num⟩
                  case measure => simp [intOf]; omega
                · obtain rfl : x = j := by omega
                  go_wp2
                  go_ret
                  exact ⟨rfl, HB7.out⟩
            · have hb0 : ((j : Int) % rows != 0) = true := by rw [bne_iff_ne]; exact hz0
              clear hz0
              go_wp2
              go_ret
              exact ⟨rfl, HB5.out⟩

theorem indexBack_all (A : Option Addr) (n c : Nat) (f : Nat → Int) (rows : Int) (w : World) (hA : IntsAt w A n f) (hn : n ≤ 9223372036854775807) :
    Calls Try.prog 7 #[.slice A n c, .int .i64 rows] w fun z w' => z = .returned (.bool true) ∧ Below w.heap.size w w' := by
  rcases hp : prodO f n with _ | m
  · exact back_none A n c f rows 0 w hA hn (.inl ⟨hp, rfl⟩) (.inl rfl)
  · have h1 := (prodTo_wt (prodO_some hp).2).2.1
    obtain ⟨p, rfl⟩ := Int.eq_ofNat_of_zero_le (show 0 ≤ m by omega)
    by_cases h2 : (2000 : Int) < p
    · exact back_none A n c f rows p w hA hn (.inr hp) (.inr h2)
    · exact back_some A n c p f rows w hA hp (by omega)
end Go.Proofs.Ytkjnlgbpfpkjhaa
