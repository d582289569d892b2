/- The contract of the document's Transpose. -/
import Derived.Test.YtkjnlgbpfpkjhaaP4
import Derived.Test.YtkjnlgbpfpkjhaaB12
import Derived.Test.YtkjnlgbpfpkjhaaB10
set_option linter.unusedSimpArgs false
set_option linter.unusedVariables false
namespace Go.Proofs.Ytkjnlgbpfpkjhaa
open Go.RowKit

set_option maxRecDepth 100000 in
theorem rTranspose_arg (A : Option Addr) (n c : Nat) (R C : Int) (w : World) (h : R < 1 ∨ C < 1) :
    Calls Try.prog 21 #[.slice A n c, .int .i64 R, .int .i64 C] w fun z w' => z = .returned (.tuple #[.slice A n c, .int .i64 2]) ∧ w = w' := by
  by_cases h1 : R < 1
  · clear h
    go_enter Try.func21, Try.ntmps21
    go_wp2
    go_ret2
    exact ⟨rfl, rfl⟩
  · have h2 : C < 1 := by omega
    clear h
    go_enter Try.func21, Try.ntmps21
    go_wp2
    go_ret2
    exact ⟨rfl, rfl⟩

set_option maxRecDepth 100000 in
theorem rTranspose_len (A : Option Addr) (n c : Nat) (R C : Int) (w : World) (hR : 1 ≤ R) (hC : 1 ≤ C) (hn : n ≤ 1048576) (h : ¬ R * C = n) :
    Calls Try.prog 21 #[.slice A n c, .int .i64 R, .int .i64 C] w fun z w' => z = .returned (.tuple #[.slice A n c, .int .i64 4]) ∧ w = w' := by
  by_cases h1 : (n : Int) < R
  · clear h
    go_enter Try.func21, Try.ntmps21
    go_wp2
    go_ret2
    exact ⟨rfl, rfl⟩
  · by_cases h2 : (n : Int) < C
    · clear h
      go_enter Try.func21, Try.ntmps21
      go_wp2
      go_ret2
      exact ⟨rfl, rfl⟩
    · have h3 : R * C ≤ 1099511627776 := by
        have := Int.mul_le_mul (show R ≤ 1048576 by omega) (show C ≤ 1048576 by omega) (by omega) (by omega)
        omega
      have h4 : 0 ≤ R * C := Int.mul_nonneg (by omega) (by omega)
      have h5 : (R * C != (n : Int)) = true := by rw [bne_iff_ne]; exact h
      clear h
      go_enter Try.func21, Try.ntmps21
      go_wp2
      go_ret2
      exact ⟨rfl, rfl⟩

/-- What has been put when (r, c) is at hand. -/
def fillT (f : Nat → Int) (R C r c : Nat) : Nat → Int := fun i => if i % R < r ∨ (i % R = r ∧ i / R < c) then turnT f R C i else 0

set_option maxRecDepth 100000 in
set_option maxHeartbeats 2000000 in
theorem rTranspose_ok (A : Option Addr) (n cp R C : Nat) (f : Nat → Int) (w : World) (hA : IntsAt w A n f) (hR : 1 ≤ R) (hC : 1 ≤ C) (hn : n ≤ 1048576) (h : n = R * C) :
    Calls Try.prog 21 #[.slice A n cp, .int .i64 R, .int .i64 C] w fun z w' => ∃ b, z = .returned (.tuple #[.slice (some ⟨b, 0, none⟩) n n, .int .i64 0]) ∧ w.heap.size ≤ b ∧ Row w' b n (turnT f R C) ∧ Below w.heap.size w w' := by
  have hRn : R ≤ n := by rw [h]; exact Nat.le_mul_of_pos_right _ hC
  have hCn : C ≤ n := by rw [h]; exact Nat.le_mul_of_pos_left _ hR
  have hRi : (R : Int) ≤ n := by omega
  have hCi : (C : Int) ≤ n := by omega
  have h5 : ((R : Int) * (C : Int) != (n : Int)) = false := by
    rw [bne_eq_false_iff_eq, h, Int.natCast_mul]
  have h6 : (R : Int) * C ≤ 1048576 := by rw [← Int.natCast_mul, ← h]; omega
  have h7 : (0 : Int) ≤ (R : Int) * C := Int.mul_nonneg (by omega) (by omega)
  have hmk := mk22 n (by omega)
  have HA := Lib.hid hA
  have H := Lib.hid h
  clear hA h
  go_enter Try.func21, Try.ntmps21
  go_wp2
  go_loopw [9, 10] (fun i j wr => ∃ r : Nat, r ≤ R ∧ i = .int .i64 r ∧ Hid (Row wr w.heap.size n (fillT f R C r 0)) ∧ Hid (w.heap.size < wr.heap.size) ∧ Hid (Below w.heap.size w wr)) (fun i _ _ => R - (intOf i).toNat)
  case atStart => exact ⟨0, by omega, rfl, Lib.hid ((zs_row n w).congr fun i hi => by unfold fillT; rw [if_neg (by rintro (h | ⟨_, h⟩) <;> exact Nat.not_lt_zero _ h)]), Lib.hid (by simp), Lib.hid ((Below.refl _ w).alloc (Nat.le_refl _) _)⟩
  case round =>
    obtain ⟨r, hr, rfl, hrow, hs, hb⟩ := hrel
    by_cases hlt : r < R
    · have hri : (r : Int) < R := by omega
      obtain ⟨W1, hW1⟩ : ∃ W1, W1 = wr := ⟨_, rfl⟩
      rw [← hW1] at hrow hs hb ⊢
      clear hW1
      go_wp2_with fail
      go_loopw [10] (fun j wi => ∃ c : Nat, c ≤ C ∧ j = .int .i64 c ∧ Hid (Row wi w.heap.size n (fillT f R C r c)) ∧ Hid (w.heap.size < wi.heap.size) ∧ Hid (Below w.heap.size w wi)) (fun j _ => C - (intOf j).toNat)
      case atStart => exact ⟨0, by omega, rfl, hrow, hs, hb⟩
      case round =>
        obtain ⟨c, hc, rfl, hri2, hs2, hb2⟩ := hrel
        by_cases hcl : c < C
        · have hci : (c : Int) < C := by omega
          have k1 : c * R + r < n := by
            have := Nat.mul_le_mul_right R (show c + 1 ≤ C by omega)
            rw [H.out, Nat.mul_comm R C]
            rw [Nat.add_mul] at this
            omega
          have k2 : r * C + c < n := by
            have := Nat.mul_le_mul_right C (show r + 1 ≤ R by omega)
            rw [H.out]
            rw [Nat.add_mul] at this
            omega
          obtain ⟨q1, q2⟩ := hri2.out _ k1
          obtain ⟨b, o, rfl, hcell⟩ := HA.out.keep hb2.out _ k2
          have hcr : (c : Int) * R + r = ((c * R + r : Nat) : Int) := by simp
          have hrc : (r : Int) * C + c = ((r * C + c : Nat) : Int) := by simp
          have e1 : (c * R + r) % R = r := by rw [Nat.mul_comm, Nat.mul_add_mod, Nat.mod_eq_of_lt hlt]
          have e2 : (c * R + r) / R = c := by rw [Nat.mul_comm, Nat.mul_add_div (by omega), Nat.div_eq_of_lt hlt, Nat.add_zero]
          have ev : Hid (f (r * C + c) = turnT f R C (c * R + r)) := Lib.hid (by unfold turnT tq; rw [e1, e2])
          have hset := hri2.out.set k1 (f (r * C + c))
          have HS : Hid (Row (_ : World) w.heap.size n (fillT f R C r (c + 1))) := Lib.hid (hset.congr fun i hi => by
            unfold upd fillT
            have hm := Nat.div_add_mod i R
            by_cases e : i = c * R + r
            · rw [if_pos e, e, e1, e2, if_pos (by omega)]; exact ev.out
            · rw [if_neg e]
              have e3 : ¬ (i % R = r ∧ i / R = c) := fun ⟨a, b⟩ => e (by rw [a, b, Nat.mul_comm] at hm; omega)
              by_cases e4 : i % R < r ∨ (i % R = r ∧ i / R < c)
              · rw [if_pos e4, if_pos (by omega)]
              · rw [if_neg e4, if_neg (by omega)])
          have HB3 := Lib.hid (hb2.out.setCell (p := ⟨w.heap.size, c * R + r, none⟩) (Nat.le_refl _) (.int .i64 (f (r * C + c))))
          have HZ : Hid (w.heap.size < ((_ : World).setCell ⟨w.heap.size, c * R + r, none⟩ (.int .i64 (f (r * C + c)))).heap.size) := Lib.hid (by simpa using hs2.out)
          obtain ⟨u, hu⟩ : ∃ u, f (r * C + c) = u := ⟨_, rfl⟩
          rw [hu] at hcell HS HB3 HZ
          obtain ⟨a1, ha1⟩ : ∃ a1, a1 = c * R + r := ⟨_, rfl⟩
          obtain ⟨a2, ha2⟩ : ∃ a2, a2 = r * C + c := ⟨_, rfl⟩
          rw [← ha1] at k1 q1 q2 hcr HS HB3 HZ
          rw [← ha2] at k2 hcell hrc
          clear hu hset ev e1 e2 ha1 ha2
          have m1 : (0 : Int) ≤ (c : Int) * R := Int.mul_nonneg (by omega) (by omega)
          have m2 : (0 : Int) ≤ (r : Int) * C := Int.mul_nonneg (by omega) (by omega)
          have w1 : IntKind.i64.wrap ((c : Int) * R) = (c : Int) * R := IntWalk.i64_in _ (by omega)
          have w2 : IntKind.i64.wrap ((r : Int) * C) = (r : Int) * C := IntWalk.i64_in _ (by omega)
          have w3 : IntKind.i64.wrap ((c : Int) * R + r) = (a1 : Int) := by rw [hcr]; exact IntWalk.i64_in _ (by omega)
          have w4 : IntKind.i64.wrap ((r : Int) * C + c) = (a2 : Int) := by rw [hrc]; exact IntWalk.i64_in _ (by omega)
          have w5 : ((c : Int) * R + r).toNat = a1 := by omega
          have w6 : ((r : Int) * C + c).toNat = a2 := by omega
          go_wp2
          exact ⟨⟨c + 1, by omega, by go_num, HS, HZ, HB3⟩, by simp [intOf]; omega⟩
        · obtain rfl : c = C := by omega
          have HN : Hid (Row _ w.heap.size n (fillT f R c (r + 1) 0)) := Lib.hid (hri2.out.congr fun i hi => by
            unfold fillT
            have hd : i / R < c := Nat.div_lt_of_lt_mul (by rw [← H.out]; exact hi)
            by_cases e : i % R < r ∨ (i % R = r ∧ i / R < c)
            · rw [if_pos e, if_pos (by omega)]
            · rw [if_neg e, if_neg]
              rintro (a | ⟨_, b⟩)
              · omega
              · exact Nat.not_lt_zero _ b)
          clear hcl hc
          go_wp2
          exact ⟨⟨r + 1, by omega, by go_num, HN, hs2, hb2⟩, by simp [intOf]; omega⟩
    · obtain rfl : r = R := by omega
      have HN : Hid (Row wr w.heap.size n (turnT f r C)) := Lib.hid (hrow.out.congr fun i hi => by
        unfold fillT
        rw [if_pos (.inl (Nat.mod_lt _ (by omega)))])
      clear hlt hr
      go_wp2
      go_ret2
      exact ⟨_, rfl, Nat.le_refl _, HN.out, hb.out⟩
end Go.Proofs.Ytkjnlgbpfpkjhaa
