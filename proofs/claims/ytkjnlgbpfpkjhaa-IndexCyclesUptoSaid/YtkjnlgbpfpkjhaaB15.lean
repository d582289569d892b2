/- The contract of wakes. -/
import Derived.Test.YtkjnlgbpfpkjhaaB11
import Derived.Test.YtkjnlgbpfpkjhaaB14
set_option linter.unusedSimpArgs false
set_option linter.unusedVariables false
namespace Go.Proofs.Ytkjnlgbpfpkjhaa
open Go.RowKit

/-- A list's numbers. -/
def lit (l : List Int) : Nat → Int := fun i => l.getD i 0

theorem lit_ints (w : World) (l : List Int) (t : TypeId) : IntsAt (w.alloc (.cells (l.map (Value.int .i64)).toArray t)) (some ⟨w.heap.size, 0, none⟩) l.length (lit l) := by
  intro i hi
  refine ⟨_, _, rfl, ?_⟩
  rw [Nat.zero_add, World.cell?_alloc_new]
  simp [lit, hi]

theorem prod_232 : prodO (lit [2, 3, 2]) 3 = some 12 := by decide
theorem prod_23 : prodO (lit [2, 3]) 2 = some ((6 : Nat) : Int) := by decide
theorem dig_232 : ∀ i, i < 3 → dig (lit [2, 3, 2]) 11 i = lit [1, 2, 1] i := by decide
theorem rev_23 : ∀ i, i < 6 → revF (lit [2, 3]) 2 (i : Nat) = lit [0, 3, 1, 4, 2, 5] i := by decide
theorem perm_102 : Perm (lit [1, 0, 2]) 3 := ⟨by decide, by decide, fun i j hi hj => by
  have h : ∀ i, i < 3 → ∀ j, j < 3 → lit [1, 0, 2] i = lit [1, 0, 2] j → i = j := by decide
  exact h i hi j hj⟩
theorem per_0 : per (lit [1, 0, 2]) 0 = 2 := per_eq ⟨by decide, by decide, fun j h1 h2 => by obtain rfl : j = 1 := (by omega); decide⟩
theorem per_2 : per (lit [1, 0, 2]) 2 = 1 := per_eq ⟨by decide, by decide, fun j h1 h2 => by omega⟩
theorem starts_102 : starts (lit [1, 0, 2]) 3 = [0, 2] := by
  have h0 : lst (lit [1, 0, 2]) 0 = true := keeps_zero _ _
  have h1 : lst (lit [1, 0, 2]) 1 = false := by
    rw [Bool.eq_false_iff]
    intro h
    have := (keeps_iff _ _ _).1 h 1
    revert this
    decide
  have h2 : lst (lit [1, 0, 2]) 2 = true := (keeps_iff _ _ _).2 fun j => by
    have : it (lit [1, 0, 2]) 2 j = 2 := by
      induction j with
      | zero => rfl
      | succ j ih => show ((lit [1, 0, 2]) (it (lit [1, 0, 2]) 2 j)).toNat = 2; rw [ih]; decide
    omega
  rw [starts_succ, starts_succ, starts_succ, h0, h1, h2]
  rfl
theorem it_0 : ∀ i, i < 2 → ((it (lit [1, 0, 2]) 0 i : Nat) : Int) = lit [0, 1] i := by decide
theorem it_2 : ∀ i, i < 1 → ((it (lit [1, 0, 2]) 2 i : Nat) : Int) = lit [2] i := by decide

theorem OwnS.cells {e : TypeId} {w : World} {base m c : Nat} {A : Option Addr} {us : List Value} (h : OwnS e w base (.slice A m c) m us) {i : Nat} {u : Value} (hi : us[i]? = some u) : ∃ b, A = some ⟨b, 0, none⟩ ∧ w.cell? ⟨b, i, none⟩ = some u := by
  have h0 : w.ownsRow base e 1 (.slice A m c) m us := h
  have hl : i < us.length := (List.getElem?_eq_some_iff.1 hi).1
  have hm : us.length = m * 1 := h0.1
  rcases h0.2 with ⟨_, rfl⟩ | ⟨b, cap, cur, e2, _⟩
  · omega
  · injection e2 with e3
    subst e3
    refine ⟨b, rfl, ?_⟩
    have := h0.cells (g := b) rfl i u hi
    rw [Addr.add] at this
    split at this
    · rename_i e
      subst e
      exact this
    · simpa using this

theorem same_below (A A' : Option Addr) (n c c' : Nat) (f : Nat → Int) (w : World) (hA : IntsAt w A n f) (hA' : IntsAt w A' n f) (hn : n ≤ 9223372036854775807) :
    Calls Try.prog 14 #[.slice A n c, .slice A' n c'] w fun z w' => z = .returned (.bool true) ∧ Below w.heap.size w w' :=
  (same_yes A A' n c c' f w hA hA' hn).mono fun z w' ⟨h1, m, h2⟩ => ⟨h1, by subst h2; exact below_drewN w m⟩

set_option maxRecDepth 100000 in
set_option maxHeartbeats 4000000 in
theorem wakes_any (w : World) : Calls Try.prog 11 #[] w fun z w' => z = .returned (.bool true) ∧ Below w.heap.size w w' := by
  go_enter Try.func11, Try.ntmps11
  go_wp2_with fail
  refine (Digits_yes 11 12 _ 3 3 (lit [2, 3, 2]) _ (lit_ints w [2, 3, 2] 3) prod_232 (by decide) (by decide)).mono ?_
  rintro z w1 ⟨A1, c1, rfl, hi1, hb1⟩
  have HI1 := Lib.hid (hi1.congr dig_232)
  have HB1 : Hid (Below w.heap.size w w1) := Lib.hid (((Below.refl _ w).alloc (Nat.le_refl _) _).trans (hb1.mono (by simp)))
  clear hi1 hb1
  go_wp2_with fail
  refine (Reverse_any _ 2 2 6 (lit [2, 3]) _ (lit_ints w1 [2, 3] 3) prod_23).mono ?_
  rintro z w2 ⟨b2, rfl, hi2, hb2⟩
  have HI2 := Lib.hid (hi2.ints.congr rev_23)
  have HB12 : Hid (Below w1.heap.size w1 w2) := Lib.hid (((Below.refl _ w1).alloc (Nat.le_refl _) _).trans (hb2.mono (by simp)))
  have HB2 := Lib.hid (HB1.out.trans (HB12.out.mono HB1.out.size))
  have HI12 := Lib.hid (HI1.out.keep HB12.out)
  clear hi2 hb2 HI1 HB1 HB12
  go_wp2_with fail
  refine (Cycles_good _ 3 3 (lit [1, 0, 2]) _ (lit_ints w2 [1, 0, 2] 3) (by decide) perm_102).mono ?_
  rintro z w3 ⟨A3, c3, v, us, hv, rfl, hos, hd, hb3⟩
  subst hv
  rw [starts_102] at hos hd
  have HB23 : Hid (Below w2.heap.size w2 w3) := Lib.hid (((Below.refl _ w2).alloc (Nat.le_refl _) _).trans (hb3.mono (by simp)))
  have HB3 := Lib.hid (HB2.out.trans (HB23.out.mono HB2.out.size))
  have HI13 := Lib.hid (HI12.out.keep HB23.out)
  have HI23 := Lib.hid (HI2.out.keep HB23.out)
  obtain ⟨u0, e0, ho0⟩ := hd.2 0 0 rfl
  obtain ⟨u1, e1, ho1⟩ := hd.2 1 2 rfl
  rw [per_0] at ho0
  rw [per_2] at ho1
  obtain ⟨A0, c0, rfl⟩ := ho0.form
  obtain ⟨A1', c1', rfl⟩ := ho1.form
  rw [starts_102]
  obtain ⟨b3, rfl, k0⟩ := hos.cells e0
  obtain ⟨b3', eb, k1⟩ := hos.cells e1
  cases eb
  have J0 := Lib.hid (ho0.intsOf.congr it_0)
  have J1 := Lib.hid (ho1.intsOf.congr it_2)
  clear hb3 hos hd HB2 HB23 HI12 HI2 ho0 ho1 e0 e1
  go_wp2_with fail
  refine (same_below _ _ 3 _ _ (lit [1, 2, 1]) _ (HI13.out.alloc _) (lit_ints w3 [1, 2, 1] 3) (by decide)).mono ?_
  rintro z w4 ⟨rfl, hb⟩
  have HX0 : Hid (Below w3.heap.size w3 w4) := Lib.hid (((Below.refl _ w3).alloc (Nat.le_refl _) _).trans (hb.mono (by simp)))
  have HB4 := Lib.hid (HB3.out.trans (HX0.out.mono HB3.out.size))
  have HI2_4 := Lib.hid (HI23.out.keep HX0.out)
  have J0_4 := Lib.hid (J0.out.keep HX0.out)
  have J1_4 := Lib.hid (J1.out.keep HX0.out)
  have k0_4 := keep_cell HX0.out k0
  have k1_4 := keep_cell HX0.out k1
  clear hb HX0 HB3 HI23 J0 J1 k0 k1
  go_wp2_with fail
  refine (same_below _ _ 6 _ _ (lit [0, 3, 1, 4, 2, 5]) _ (HI2_4.out.alloc _) (lit_ints w4 [0, 3, 1, 4, 2, 5] 3) (by decide)).mono ?_
  rintro z w5 ⟨rfl, hb⟩
  have HX1 : Hid (Below w4.heap.size w4 w5) := Lib.hid (((Below.refl _ w4).alloc (Nat.le_refl _) _).trans (hb.mono (by simp)))
  have HB5 := Lib.hid (HB4.out.trans (HX1.out.mono HB4.out.size))
  have HI2_5 := Lib.hid (HI2_4.out.keep HX1.out)
  have J0_5 := Lib.hid (J0_4.out.keep HX1.out)
  have J1_5 := Lib.hid (J1_4.out.keep HX1.out)
  have k0_5 := keep_cell HX1.out k0_4
  have k1_5 := keep_cell HX1.out k1_4
  clear hb HX1 HB4 HI2_4 J0_4 J1_4 k0_4 k1_4
  go_wp2_with fail
  refine (same_below _ _ 2 _ _ (lit [0, 1]) _ (J0_5.out.alloc _) (lit_ints w5 [0, 1] 3) (by decide)).mono ?_
  rintro z w6 ⟨rfl, hb⟩
  have HX2 : Hid (Below w5.heap.size w5 w6) := Lib.hid (((Below.refl _ w5).alloc (Nat.le_refl _) _).trans (hb.mono (by simp)))
  have HB6 := Lib.hid (HB5.out.trans (HX2.out.mono HB5.out.size))
  have HI2_6 := Lib.hid (HI2_5.out.keep HX2.out)
  have J0_6 := Lib.hid (J0_5.out.keep HX2.out)
  have J1_6 := Lib.hid (J1_5.out.keep HX2.out)
  have k0_6 := keep_cell HX2.out k0_5
  have k1_6 := keep_cell HX2.out k1_5
  clear hb HX2 HB5 HI2_5 J0_5 J1_5 k0_5 k1_5
  go_wp2_with fail
  refine (same_below _ _ 1 _ _ (lit [2]) _ (J1_6.out.alloc _) (lit_ints w6 [2] 3) (by decide)).mono ?_
  rintro z w7 ⟨rfl, hb⟩
  have HX3 : Hid (Below w6.heap.size w6 w7) := Lib.hid (((Below.refl _ w6).alloc (Nat.le_refl _) _).trans (hb.mono (by simp)))
  have HB7 := Lib.hid (HB6.out.trans (HX3.out.mono HB6.out.size))
  clear hb HX3 HB6
  go_wp2
  go_ret
  exact ⟨rfl, HB7.out⟩
end Go.Proofs.Ytkjnlgbpfpkjhaa
