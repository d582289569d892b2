/- Words for memory: two cells alone are written. The statement's isPrime; pick's choice. -/
import Derived.Test.YteaimnemobnknaaMW2
import Derived.Test.YteaimnemobnknaaMW1
set_option linter.unusedSimpArgs false
set_option linter.unusedVariables false
namespace Go.Proofs.Yteaimnemobnknaa
open Go.RowKit Go.Lib

/-- Of what was there blocks a and b alone may have turned. -/
structure Only2 (a b : Nat) (w w' : World) : Prop where
  os : w'.os = w.os
  tape : w'.tape = w.tape
  output : w'.output = w.output
  size : w.heap.size ≤ w'.heap.size
  block : ∀ k, k < w.heap.size → k ≠ a → k ≠ b → w'.heap[k]? = w.heap[k]?
theorem Only2.refl (a b : Nat) (w : World) : Only2 a b w w := ⟨rfl, rfl, rfl, Nat.le_refl _, fun _ _ _ _ => rfl⟩
theorem Only2.trans {a b : Nat} {x y z : World} (h : Only2 a b x y) (k : Only2 a b y z) : Only2 a b x z :=
  ⟨k.os.trans h.os, k.tape.trans h.tape, k.output.trans h.output, Nat.le_trans h.size k.size, fun i hi ha hb => (k.block i (Nat.lt_of_lt_of_le hi h.size) ha hb).trans (h.block i hi ha hb)⟩
theorem Only2.of_below {a b : Nat} {x y : World} (h : Below x.heap.size x y) : Only2 a b x y := ⟨h.os, h.tape, h.output, h.size, fun i hi _ _ => h.block i hi⟩
theorem Only2.below {a b c : Nat} {x y : World} (h : Only2 a b x y) (ha : c ≤ a) (hb : c ≤ b) (hc : c ≤ x.heap.size) : Below c x y := ⟨h.os, h.tape, h.output, h.size, fun i hi => h.block i (by omega) (by omega) (by omega)⟩
/-- A number of one block. -/
def IntBox (w : World) (b : Nat) (v : Int) : Prop := w.cell? ⟨b, 0, none⟩ = some (.int .i64 v) ∧ w.frozen? ⟨b, 0, none⟩ = false
theorem IntBox.drew {w : World} {b : Nat} {v : Int} (h : IntBox w b v) : IntBox w.drew b v := h
/-- A truth value is handed back. -/
def AnyB (z : Ending) : Prop := ∃ b : Bool, z = .returned (.bool b)
set_option maxRecDepth 100000 in
theorem isPrime18 (n : Nat) (hn : n ≤ 1073741824) (w : World) : Calls Try.prog 85 #[.int .i64 n] w fun z w' => AnyB z ∧ w = w' := by
  go_enter Try.func85, Try.ntmps85
  go_wp2
  go_loop [3] (fun vd => ∃ d : Nat, vd = .int .i64 d ∧ 2 ≤ d ∧ d ≤ n + 2) (fun vd => n + 3 - (intOf vd).toNat)
  case atStart => exact ⟨2, rfl, by omega, by omega⟩
  case round =>
    obtain ⟨d, rfl, hd2, hdm⟩ := hrel
    have hdd : d * d ≤ 1073741826 * 1073741826 := Nat.mul_le_mul (by omega) (by omega)
    have hd0 : ((d : Int) == 0) = false := by rw [beq_eq_false_iff_ne]; omega
    have hd1 : ¬ (d : Int) = 0 := by omega
    have hmul : (d : Int) * (d : Int) = ((d * d : Nat) : Int) := (Int.natCast_mul d d).symm
    have hge : d ≤ d * d := Nat.le_mul_of_pos_left d (by omega)
    obtain ⟨D, hD⟩ : ∃ D, d * d = D := ⟨_, rfl⟩
    rw [hD] at hmul hdd hge
    clear hD
    by_cases hle : D ≤ n
    · have hlei : (D : Int) ≤ (n : Int) := by omega
      have ht : (n : Int).tmod d = ((n % d : Nat) : Int) := by rw [Int.tmod_eq_emod_of_nonneg (by omega)]; omega
      obtain ⟨x, hx⟩ : ∃ x, n % d = x := ⟨_, rfl⟩
      have hxl : x < d := by rw [← hx]; exact Nat.mod_lt _ (by omega)
      rw [hx] at ht
      clear hx
      by_cases h0 : x = 0
      · subst h0
        go_wp2
        go_ret
        exact ⟨⟨_, rfl⟩, rfl⟩
      · have h0' : ¬ (x : Int) = 0 := by omega
        have h0b : ((x : Int) == 0) = false := by rw [beq_eq_false_iff_ne]; omega
        go_wp2
        exact ⟨⟨d + 1, by go_num, by omega, by omega⟩, by simp [intOf]; omega⟩
    · have hlei : ¬ (D : Int) ≤ (n : Int) := by omega
      go_wp2
      go_ret
      exact ⟨⟨_, rfl⟩, rfl⟩

/-- What is chosen. -/
theorem next18 (k b1 b2 pa : Nat) (a : Int) (Ac : Option Addr) (nc cc : Nat) (f : Nat → Int) (w : World) (hk : 1 ≤ k) (hk2 : k ≤ 1073741824) (h1 : w.cell? ⟨b1, 0, none⟩ = some (.pointer (some ⟨pa, 0, none⟩))) (h2 : w.cell? ⟨b2, 0, none⟩ = some (.slice Ac nc cc)) (ha : IntBox w pa a)
    (a0 : 0 ≤ a) (a1 : a ≤ 1073741824) (hI : IntsAt w Ac nc f) (n1 : b1 ≠ pa) (n2 : b2 ≠ pa) (n3 : 0 < nc → ∀ b o, Ac = some ⟨b, o, none⟩ → b ≠ pa) (hnc : nc ≤ 1125899906842624) :
    Calls Try.prog 84 #[.int .i64 k, .pointer (some ⟨b1, 0, none⟩), .pointer (some ⟨b2, 0, none⟩)] w fun z w' => (∃ i : Nat, z = .returned (.int .i64 i) ∧ i < k) ∧ IntBox w' pa (a + 1) ∧ OnlyB pa w w' := by
  obtain ⟨ha1, ha2⟩ := ha
  obtain ⟨W1, hW1⟩ : ∃ W1, W1 = w.setCell ⟨pa, 0, none⟩ (.int .i64 (a + 1)) := ⟨_, rfl⟩
  have hF : IntBox W1 pa (a + 1) ∧ OnlyB pa w W1 := by
    rw [hW1]
    exact ⟨⟨by go_simp, by go_simp⟩, (OnlyB.refl pa w).setCell _ _ _⟩
  have FIN := Lib.hid hF
  have hI' : Hid (IntsAt W1 Ac nc f) := Lib.hid (fun i hi => by
    obtain ⟨b, o, e, hc⟩ := hI i hi
    refine ⟨b, o, e, ?_⟩
    rw [hW1, World.cell?_setCell_other]
    · exact hc
    · intro h
      exact n3 (by omega) b o e (congrArg Addr.block h).symm)
  have c1 : W1.cell? ⟨b1, 0, none⟩ = some (.pointer (some ⟨pa, 0, none⟩)) := by
    rw [hW1, World.cell?_setCell_other _ _ _ _ (fun h => n1 (congrArg Addr.block h).symm)]; exact h1
  have c2 : W1.cell? ⟨b2, 0, none⟩ = some (.slice Ac nc cc) := by
    rw [hW1, World.cell?_setCell_other _ _ _ _ (fun h => n2 (congrArg Addr.block h).symm)]; exact h2
  have c3 : W1.cell? ⟨pa, 0, none⟩ = some (.int .i64 (a + 1)) := hF.1.1
  have HW1 := Lib.hid hW1
  clear hF hI n3 hW1
  go_enter Try.func84, Try.ntmps84
  go_wp2
  rw [← HW1.out]
  clear h1 h2 ha1 ha2
  refine wp_region_S (fun w' => w'.cell? ⟨b1, 0, none⟩ = some (.pointer (some ⟨pa, 0, none⟩)) ∧ w'.cell? ⟨b2, 0, none⟩ = some (.slice Ac nc cc) ∧ w'.cell? ⟨pa, 0, none⟩ = some (.int .i64 (a + 1))) 5 (by kernel_rfl) ?_
  have hS0 := (⟨c1, c2, c3⟩ : (fun w' => w'.cell? ⟨b1, 0, none⟩ = some (.pointer (some ⟨pa, 0, none⟩)) ∧ w'.cell? ⟨b2, 0, none⟩ = some (.slice Ac nc cc) ∧ w'.cell? ⟨pa, 0, none⟩ = some (.int .i64 (a + 1))) W1.drew)
  refine wpAnyS_take (i := 0) (v := ?_) (by kernel_rfl) rfl (fun _ _ _ h => h) rfl hS0 (fun w hSw => by (try dsimp only at hSw); go_simp; try with_reducible rfl) ?_
  try simp only [List.getElem_toArray, List.getElem_cons_zero, List.getElem_cons_succ, Act.put, List.setIfInBounds_toArray, List.set_cons_zero, List.set_cons_succ]
  refine wpAnyS_take (i := 1) (v := ?_) (by kernel_rfl) rfl (fun _ _ _ h => h) rfl hS0 (fun w hSw => by (try dsimp only at hSw); go_simp; try with_reducible rfl) ?_
  try simp only [List.getElem_toArray, List.getElem_cons_zero, List.getElem_cons_succ, Act.put, List.setIfInBounds_toArray, List.set_cons_zero, List.set_cons_succ]
  refine wpAnyS_take (i := 2) (v := ?_) (by kernel_rfl) rfl (fun _ _ _ h => h) rfl hS0 (fun w hSw => by (try dsimp only at hSw); go_simp; try with_reducible rfl) ?_
  try simp only [List.getElem_toArray, List.getElem_cons_zero, List.getElem_cons_succ, Act.put, List.setIfInBounds_toArray, List.set_cons_zero, List.set_cons_succ]
  refine wpAnyS_take (i := 3) (v := ?_) (by kernel_rfl) rfl (fun _ _ _ h => h) rfl hS0 (fun w hSw => by (try dsimp only at hSw); go_simp; try with_reducible rfl) ?_
  try simp only [List.getElem_toArray, List.getElem_cons_zero, List.getElem_cons_succ, Act.put, List.setIfInBounds_toArray, List.set_cons_zero, List.set_cons_succ]
  refine wpAnyS_take (i := 4) (v := ?_) (by kernel_rfl) rfl (fun _ _ _ h => h) rfl hS0 (fun w hSw => by (try dsimp only at hSw); go_simp; try with_reducible rfl) ?_
  try simp only [List.getElem_toArray, List.getElem_cons_zero, List.getElem_cons_succ, Act.put, List.setIfInBounds_toArray, List.set_cons_zero, List.set_cons_succ]
  refine wpAnyS_end 5 5 (by kernel_rfl) (by decide) rfl ?_
  simp only [List.toList_toArray, List.drop_succ_cons, List.drop_zero]
  clear hS0
  by_cases hgt : (nc : Int) < a + 1
  · go_wp2
    go_ret
    exact ⟨⟨0, rfl, by omega⟩, FIN.out.1.drew, FIN.out.2.drew⟩
  · obtain ⟨m, rfl⟩ : ∃ m : Nat, a = m := ⟨a.toNat, by omega⟩
    obtain ⟨bI, oI, rfl, c4⟩ := hI'.out m (by omega)
    have hkI : ¬ (k : Int) < 1 := by omega
    have hk0 : ¬ (k : Int) = 0 := by omega
    have hmn : (m : Int) < (nc : Int) := by omega
    have hi0 := Int.emod_nonneg (f m) (show (k : Int) ≠ 0 by omega)
    have hi1 := Int.emod_lt_of_pos (f m) (show 0 < (k : Int) by omega)
    have hwm : IntKind.i64.wrap ((m : Int)) = (m : Int) := wrapI_nat m (by omega)
    have hin : 0 ≤ (m : Int) ∧ (m : Int) < (nc : Int) := by omega
    go_wp2
    by_cases hneg : f m ≤ 0
    · skip
      refine wp_region_S (fun w' => w'.cell? ⟨b1, 0, none⟩ = some (.pointer (some ⟨pa, 0, none⟩)) ∧ w'.cell? ⟨b2, 0, none⟩ = some (.slice (some ⟨bI, oI, none⟩) nc cc) ∧ w'.cell? ⟨pa, 0, none⟩ = some (.int .i64 ((m : Int) + 1)) ∧ w'.cell? ⟨bI, oI + m, none⟩ = some (.int .i64 (f m))) 9 (by kernel_rfl) ?_
      have hS0 := (⟨c1, c2, c3, c4⟩ : (fun w' => w'.cell? ⟨b1, 0, none⟩ = some (.pointer (some ⟨pa, 0, none⟩)) ∧ w'.cell? ⟨b2, 0, none⟩ = some (.slice (some ⟨bI, oI, none⟩) nc cc) ∧ w'.cell? ⟨pa, 0, none⟩ = some (.int .i64 ((m : Int) + 1)) ∧ w'.cell? ⟨bI, oI + m, none⟩ = some (.int .i64 (f m))) W1.drew.drew)
      refine wpAnyS_take (i := 0) (v := ?_) (by kernel_rfl) rfl (fun _ _ _ h => h) rfl hS0 (fun w hSw => by (try dsimp only at hSw); go_simp; (try simp only [hwm, hin, and_self, if_true, Int.toNat_natCast]); try with_reducible rfl) ?_
      try simp only [List.getElem_toArray, List.getElem_cons_zero, List.getElem_cons_succ, Act.put, List.setIfInBounds_toArray, List.set_cons_zero, List.set_cons_succ]
      refine wpAnyS_take (i := 1) (v := ?_) (by kernel_rfl) rfl (fun _ _ _ h => h) rfl hS0 (fun w hSw => by (try dsimp only at hSw); go_simp; (try simp only [hwm, hin, and_self, if_true, Int.toNat_natCast]); try with_reducible rfl) ?_
      try simp only [List.getElem_toArray, List.getElem_cons_zero, List.getElem_cons_succ, Act.put, List.setIfInBounds_toArray, List.set_cons_zero, List.set_cons_succ]
      refine wpAnyS_take (i := 2) (v := ?_) (by kernel_rfl) rfl (fun _ _ _ h => h) rfl hS0 (fun w hSw => by (try dsimp only at hSw); go_simp; (try simp only [hwm, hin, and_self, if_true, Int.toNat_natCast]); try with_reducible rfl) ?_
      try simp only [List.getElem_toArray, List.getElem_cons_zero, List.getElem_cons_succ, Act.put, List.setIfInBounds_toArray, List.set_cons_zero, List.set_cons_succ]
      refine wpAnyS_take (i := 3) (v := ?_) (by kernel_rfl) rfl (fun _ _ _ h => h) rfl hS0 (fun w hSw => by (try dsimp only at hSw); go_simp; (try simp only [hwm, hin, and_self, if_true, Int.toNat_natCast]); try with_reducible rfl) ?_
      try simp only [List.getElem_toArray, List.getElem_cons_zero, List.getElem_cons_succ, Act.put, List.setIfInBounds_toArray, List.set_cons_zero, List.set_cons_succ]
      refine wpAnyS_take (i := 4) (v := ?_) (by kernel_rfl) rfl (fun _ _ _ h => h) rfl hS0 (fun w hSw => by (try dsimp only at hSw); go_simp; (try simp only [hwm, hin, and_self, if_true, Int.toNat_natCast]); try with_reducible rfl) ?_
      try simp only [List.getElem_toArray, List.getElem_cons_zero, List.getElem_cons_succ, Act.put, List.setIfInBounds_toArray, List.set_cons_zero, List.set_cons_succ]
      refine wpAnyS_take (i := 5) (v := ?_) (by kernel_rfl) rfl (fun _ _ _ h => h) rfl hS0 (fun w hSw => by (try dsimp only at hSw); go_simp; (try simp only [hwm, hin, and_self, if_true, Int.toNat_natCast]); try with_reducible rfl) ?_
      try simp only [List.getElem_toArray, List.getElem_cons_zero, List.getElem_cons_succ, Act.put, List.setIfInBounds_toArray, List.set_cons_zero, List.set_cons_succ]
      refine wpAnyS_take (i := 6) (v := ?_) (by kernel_rfl) rfl (fun _ _ _ h => h) rfl hS0 (fun w hSw => by (try dsimp only at hSw); go_simp; (try simp only [hwm, hin, and_self, if_true, Int.toNat_natCast]); try with_reducible rfl) ?_
      try simp only [List.getElem_toArray, List.getElem_cons_zero, List.getElem_cons_succ, Act.put, List.setIfInBounds_toArray, List.set_cons_zero, List.set_cons_succ]
      refine wpAnyS_take (i := 7) (v := ?_) (by kernel_rfl) rfl (fun _ _ _ h => h) rfl hS0 (fun w hSw => by (try dsimp only at hSw); go_simp; (try simp only [hwm, hin, and_self, if_true, Int.toNat_natCast]); try with_reducible rfl) ?_
      try simp only [List.getElem_toArray, List.getElem_cons_zero, List.getElem_cons_succ, Act.put, List.setIfInBounds_toArray, List.set_cons_zero, List.set_cons_succ]
      refine wpAnyS_take (i := 8) (v := ?_) (by kernel_rfl) rfl (fun _ _ _ h => h) rfl hS0 (fun w hSw => by (try dsimp only at hSw); go_simp; (try simp only [hwm, hin, and_self, if_true, Int.toNat_natCast]); try with_reducible rfl) ?_
      try simp only [List.getElem_toArray, List.getElem_cons_zero, List.getElem_cons_succ, Act.put, List.setIfInBounds_toArray, List.set_cons_zero, List.set_cons_succ]
      refine wpAnyS_end 2 9 (by kernel_rfl) (by decide) rfl ?_
      simp only [List.toList_toArray, List.drop_succ_cons, List.drop_zero]
      clear hS0
      go_wp2
      go_ret
      exact ⟨⟨0, rfl, by omega⟩, FIN.out.1.drew.drew, FIN.out.2.drew.drew⟩
    · skip
      refine wp_region_S (fun w' => w'.cell? ⟨b1, 0, none⟩ = some (.pointer (some ⟨pa, 0, none⟩)) ∧ w'.cell? ⟨b2, 0, none⟩ = some (.slice (some ⟨bI, oI, none⟩) nc cc) ∧ w'.cell? ⟨pa, 0, none⟩ = some (.int .i64 ((m : Int) + 1)) ∧ w'.cell? ⟨bI, oI + m, none⟩ = some (.int .i64 (f m))) 9 (by kernel_rfl) ?_
      have hS0 := (⟨c1, c2, c3, c4⟩ : (fun w' => w'.cell? ⟨b1, 0, none⟩ = some (.pointer (some ⟨pa, 0, none⟩)) ∧ w'.cell? ⟨b2, 0, none⟩ = some (.slice (some ⟨bI, oI, none⟩) nc cc) ∧ w'.cell? ⟨pa, 0, none⟩ = some (.int .i64 ((m : Int) + 1)) ∧ w'.cell? ⟨bI, oI + m, none⟩ = some (.int .i64 (f m))) W1.drew.drew)
      refine wpAnyS_take (i := 0) (v := ?_) (by kernel_rfl) rfl (fun _ _ _ h => h) rfl hS0 (fun w hSw => by (try dsimp only at hSw); go_simp; (try simp only [hwm, hin, and_self, if_true, Int.toNat_natCast]); try with_reducible rfl) ?_
      try simp only [List.getElem_toArray, List.getElem_cons_zero, List.getElem_cons_succ, Act.put, List.setIfInBounds_toArray, List.set_cons_zero, List.set_cons_succ]
      refine wpAnyS_take (i := 1) (v := ?_) (by kernel_rfl) rfl (fun _ _ _ h => h) rfl hS0 (fun w hSw => by (try dsimp only at hSw); go_simp; (try simp only [hwm, hin, and_self, if_true, Int.toNat_natCast]); try with_reducible rfl) ?_
      try simp only [List.getElem_toArray, List.getElem_cons_zero, List.getElem_cons_succ, Act.put, List.setIfInBounds_toArray, List.set_cons_zero, List.set_cons_succ]
      refine wpAnyS_take (i := 2) (v := ?_) (by kernel_rfl) rfl (fun _ _ _ h => h) rfl hS0 (fun w hSw => by (try dsimp only at hSw); go_simp; (try simp only [hwm, hin, and_self, if_true, Int.toNat_natCast]); try with_reducible rfl) ?_
      try simp only [List.getElem_toArray, List.getElem_cons_zero, List.getElem_cons_succ, Act.put, List.setIfInBounds_toArray, List.set_cons_zero, List.set_cons_succ]
      refine wpAnyS_take (i := 3) (v := ?_) (by kernel_rfl) rfl (fun _ _ _ h => h) rfl hS0 (fun w hSw => by (try dsimp only at hSw); go_simp; (try simp only [hwm, hin, and_self, if_true, Int.toNat_natCast]); try with_reducible rfl) ?_
      try simp only [List.getElem_toArray, List.getElem_cons_zero, List.getElem_cons_succ, Act.put, List.setIfInBounds_toArray, List.set_cons_zero, List.set_cons_succ]
      refine wpAnyS_take (i := 4) (v := ?_) (by kernel_rfl) rfl (fun _ _ _ h => h) rfl hS0 (fun w hSw => by (try dsimp only at hSw); go_simp; (try simp only [hwm, hin, and_self, if_true, Int.toNat_natCast]); try with_reducible rfl) ?_
      try simp only [List.getElem_toArray, List.getElem_cons_zero, List.getElem_cons_succ, Act.put, List.setIfInBounds_toArray, List.set_cons_zero, List.set_cons_succ]
      refine wpAnyS_take (i := 5) (v := ?_) (by kernel_rfl) rfl (fun _ _ _ h => h) rfl hS0 (fun w hSw => by (try dsimp only at hSw); go_simp; (try simp only [hwm, hin, and_self, if_true, Int.toNat_natCast]); try with_reducible rfl) ?_
      try simp only [List.getElem_toArray, List.getElem_cons_zero, List.getElem_cons_succ, Act.put, List.setIfInBounds_toArray, List.set_cons_zero, List.set_cons_succ]
      refine wpAnyS_take (i := 6) (v := ?_) (by kernel_rfl) rfl (fun _ _ _ h => h) rfl hS0 (fun w hSw => by (try dsimp only at hSw); go_simp; (try simp only [hwm, hin, and_self, if_true, Int.toNat_natCast]); try with_reducible rfl) ?_
      try simp only [List.getElem_toArray, List.getElem_cons_zero, List.getElem_cons_succ, Act.put, List.setIfInBounds_toArray, List.set_cons_zero, List.set_cons_succ]
      refine wpAnyS_take (i := 7) (v := ?_) (by kernel_rfl) rfl (fun _ _ _ h => h) rfl hS0 (fun w hSw => by (try dsimp only at hSw); go_simp; (try simp only [hwm, hin, and_self, if_true, Int.toNat_natCast]); try with_reducible rfl) ?_
      try simp only [List.getElem_toArray, List.getElem_cons_zero, List.getElem_cons_succ, Act.put, List.setIfInBounds_toArray, List.set_cons_zero, List.set_cons_succ]
      refine wpAnyS_take (i := 8) (v := ?_) (by kernel_rfl) rfl (fun _ _ _ h => h) rfl hS0 (fun w hSw => by (try dsimp only at hSw); go_simp; (try simp only [hwm, hin, and_self, if_true, Int.toNat_natCast]); try with_reducible rfl) ?_
      try simp only [List.getElem_toArray, List.getElem_cons_zero, List.getElem_cons_succ, Act.put, List.setIfInBounds_toArray, List.set_cons_zero, List.set_cons_succ]
      refine wpAnyS_end 2 9 (by kernel_rfl) (by decide) rfl ?_
      simp only [List.toList_toArray, List.drop_succ_cons, List.drop_zero]
      clear hS0
      go_wp2
      go_ret
      exact ⟨⟨(f m % (k : Int)).toNat, by rw [Int.toNat_of_nonneg hi0]; rfl, by omega⟩, FIN.out.1.drew.drew, FIN.out.2.drew.drew⟩
end Go.Proofs.Yteaimnemobnknaa
