/- The walks of EftProds and EftSplits. -/
import Derived.Test.YtnpkblidlmkagaaW11
import Derived.Test.YtnpkblidlmkagaaFl6
set_option linter.unusedSimpArgs false
set_option linter.unusedVariables false
namespace Go.Proofs.Ytnpkblidlmkagaa
open Go.RowKit Fl

set_option maxRecDepth 100000 in
set_option maxHeartbeats 4000000 in
theorem prods_any (a b : Int) (x y p e : Nat) (P : Int) (w : World) (hx : mildF a = x) (hy : mildF b = y) (hs : prodF x y = some (p, e)) (ha : fmul x y = some p) (fx : Fnt x) (fy : Fnt y) (h1 : Fnt p) (h2 : Fnt e)
    (ns : Fnt (fneg p)) (ne : Fnt (fneg e)) (hE : (pm x = 0 ∨ pm y = 0) ∨ (-1150 ≤ pe x + pe y ∧ pe x + pe y ≤ 1800)) (hP : pm x * pm y * 2 ^ (pe x + pe y + 1200).toNat = P * 2 ^ 126) (hsum : P + iv (fneg p) + iv (fneg e) = 0) (o1 : (FloatKind.f64.format.order p p != some Ordering.eq) = false) :
    Calls Try.prog 18 #[.int .i64 a, .int .i64 b] w fun z w' => z = .returned (.bool true) ∧ Below w.heap.size w w' := by
  have p1 := fun w => mild_any a w
  have p2 := fun w => mild_any b w
  rw [hx] at p1
  rw [hy] at p2
  have c2 := fun w => finite_any e w h2.1
  rw [finB_fnt h2] at c2
  have P1 := Lib.hid p1
  have P2 := Lib.hid p2
  have C2 := Lib.hid c2
  have HS := Lib.hid hs
  have NS := Lib.hid ns
  have NE := Lib.hid ne
  have HSUM := Lib.hid hsum
  have TV := Lib.hid (fun b f w hl B hB hf => times_val b x y f w fx fy hE hl B hB hf)
  have HPP := Lib.hid hP
  replace ha := hmul ha
  clear p1 p2 hx hy hs h1 h2 fx fy ns ne hsum c2 hE hP
  go_enter Try.func18, Try.ntmps18
  go_wp2_with fail
  refine (P1.out _).mono ?_
  rintro z w' ⟨rfl, rfl⟩
  go_wp2_with fail
  refine (P2.out _).mono ?_
  rintro z w' ⟨rfl, rfl⟩
  go_wp2_with fail
  refine (prod_any _ _ _ _ _ HS.out).mono ?_
  rintro z w' ⟨rfl, rfl⟩
  go_wp2_with fail
  refine (wakes3_any _).mono ?_
  rintro z w1 ⟨rfl, hb⟩
  have HB := Lib.hid hb
  clear hb
  go_wp2_with (first | simp only [ha] | fail)
  refine (C2.out _).mono ?_
  rintro z w' ⟨rfl, rfl⟩
  have L0 := Lib.hid (limbs_new w1)
  have B3 : Hid (Below w.heap.size w (w1.alloc (.cells Try.zeroCells33 33))) := Lib.hid (HB.out.alloc HB.out.size _)
  go_wp2_with fail
  refine (TV.out _ _ _ L0.out 0 (by omega) (fun _ => by simp)).mono ?_
  rintro z w2 ⟨rfl, g1, l1, n1, v1, k1⟩
  have L1 := Lib.hid l1
  have N1 := Lib.hid n1
  have V1 := Lib.hid v1
  have K1 := Lib.hid k1
  clear l1 n1 v1 k1
  go_wp2_with fail
  refine (ladd_any _ _ _ _ NS.out L1.out _ (by omega) N1.out).mono ?_
  rintro z w4 ⟨rfl, g3, l3, n3, v3, k3⟩
  have L3 := Lib.hid l3
  have N3 := Lib.hid n3
  have V3 := Lib.hid v3
  have K3 := Lib.hid k3
  clear l3 n3 v3 k3
  go_wp2_with fail
  refine (ladd_any _ _ _ _ NE.out L3.out _ (by omega) N3.out).mono ?_
  rintro z w5 ⟨rfl, g4, l4, n4, v4, k4⟩
  have L4 := Lib.hid l4
  have N4 := Lib.hid n4
  have V4 := Lib.hid v4
  have K4 := Lib.hid k4
  clear l4 n4 v4 k4
  go_wp2_with fail
  refine (zero_any _ _ _ L4.out _ (by omega) N4.out).mono ?_
  rintro z w6 ⟨rfl, rfl⟩
  have hz : val g4 110 = 0 := by
    rw [V4.out, V3.out, V1.out, val_zero, Int.zero_add, HPP.out, ← Int.add_mul, ← Int.add_mul, HSUM.out, Int.zero_mul]
  have HZ := Lib.hid hz
  clear hz
  go_wp2
  go_ret
  refine ⟨?_, ?_⟩
  · show Ending.returned (Value.bool (decide (val g4 110 = 0))) = _
    rw [decide_eq_true HZ.out]
  · have hle : w.heap.size ≤ w1.heap.size := HB.out.size
    have k := ((K1.out.trans K3.out).trans K4.out).below (by simp)
    exact B3.out.trans (k.mono hle)

theorem prods_all (a b : Int) (w : World) :
    Calls Try.prog 18 #[.int .i64 a, .int .i64 b] w fun z w' => z = .returned (.bool true) ∧ Below w.heap.size w w' := by
  obtain ⟨A, k, ma, k1, k2⟩ := mildF_spec a
  obtain ⟨B, l, mb, l1, l2⟩ := mildF_spec b
  obtain ⟨x, hx⟩ : ∃ x, mildF a = x := ⟨_, rfl⟩
  obtain ⟨y, hy⟩ : ∃ y, mildF b = y := ⟨_, rfl⟩
  rw [hx] at ma
  rw [hy] at mb
  have hj : k + l = (k + l - U) + U := by have := U_eq; omega
  have hj2 : k + l - U ≤ 1800 := by have := U_eq; omega
  obtain ⟨p, e, h1, ha, fp, fe, vp, ve⟩ := prodF_spec ma mb hj (by omega) (by omega) hj2
  obtain ⟨ns, es⟩ := fneg_spec fp
  obtain ⟨ne, ee⟩ := fneg_spec fe
  have hP : iv x * iv y = (A * B * 2 ^ (k + l - U)) * 2 ^ U := by
    rw [ma.e, mb.e, Int.mul_assoc (A * B), ← Int.pow_add, ← hj, Int.pow_add, Int.mul_assoc, Int.mul_assoc, Int.mul_left_comm (2 ^ k)]
  have hE : (pm x = 0 ∨ pm y = 0) ∨ (-1150 ≤ pe x + pe y ∧ pe x + pe y ≤ 1800) := by
    by_cases hA : A = 0
    · left; left; exact pm_zero ma.f (by rw [ma.e, hA, Int.zero_mul])
    · by_cases hB : B = 0
      · left; right; exact pm_zero mb.f (by rw [mb.e, hB, Int.zero_mul])
      · right
        have := ma.lo hA
        have := mb.lo hB
        have := ma.hi
        have := mb.hi
        omega
  refine prods_any a b x y p e _ w hx hy h1 ha ma.f mb.f fp fe ns ne hE (times_units ma.f mb.f hP (by omega)) ?_ (neq_of_eq (order_eq fp fp rfl))
  rw [es, ee, vp, ve, Int.sub_mul]
  omega

set_option maxRecDepth 100000 in
set_option maxHeartbeats 4000000 in
theorem splits_any (a : Int) (x h l : Nat) (w : World) (hx : mildF a = x) (hs : splitF x = some (h, l)) (fx : Fnt x) (h1 : Fnt h) (h2 : Fnt l) (w1 : FewAt (pm h).natAbs) (w2 : FewAt (pm l).natAbs)
    (ns : Fnt (fneg h)) (ne : Fnt (fneg l)) (hsum : iv x + iv (fneg h) + iv (fneg l) = 0) :
    Calls Try.prog 17 #[.int .i64 a] w fun z w' => z = .returned (.bool true) ∧ Below w.heap.size w w' := by
  have p1 := fun w => mild_any a w
  rw [hx] at p1
  have c1 := fun w => finite_any h w h1.1
  rw [finB_fnt h1] at c1
  have c2 := fun w => finite_any l w h2.1
  rw [finB_fnt h2] at c2
  have P1 := Lib.hid p1
  have C1 := Lib.hid c1
  have C2 := Lib.hid c2
  have F1 := Lib.hid (fun w => few_any h w h1 w1)
  have F2 := Lib.hid (fun w => few_any l w h2 w2)
  have HS := Lib.hid hs
  have FX := Lib.hid fx
  have NS := Lib.hid ns
  have NE := Lib.hid ne
  have HSUM := Lib.hid hsum
  clear p1 hx hs h1 h2 fx ns ne hsum c1 c2 w1 w2
  go_enter Try.func17, Try.ntmps17
  go_wp2_with fail
  refine (P1.out _).mono ?_
  rintro z w' ⟨rfl, rfl⟩
  go_wp2_with fail
  refine (split_any _ _ _ _ HS.out).mono ?_
  rintro z w' ⟨rfl, rfl⟩
  go_wp2_with fail
  refine (wakes3_any _).mono ?_
  rintro z w1 ⟨rfl, hb⟩
  have HB := Lib.hid hb
  clear hb
  go_wp2_with fail
  refine (C1.out _).mono ?_
  rintro z w' ⟨rfl, rfl⟩
  go_wp2_with fail
  refine (C2.out _).mono ?_
  rintro z w' ⟨rfl, rfl⟩
  go_wp2_with fail
  refine (F1.out _).mono ?_
  rintro z w' ⟨rfl, rfl⟩
  go_wp2_with fail
  refine (F2.out _).mono ?_
  rintro z w' ⟨rfl, rfl⟩
  have L0 := Lib.hid (limbs_new w1)
  have B3 : Hid (Below w.heap.size w (w1.alloc (.cells Try.zeroCells33 33))) := Lib.hid (HB.out.alloc HB.out.size _)
  go_wp2_with fail
  refine (ladd_any _ _ _ _ FX.out L0.out 0 (by omega) (fun _ => by simp)).mono ?_
  rintro z w2 ⟨rfl, g1, l1, n1, v1, k1⟩
  have L1 := Lib.hid l1
  have N1 := Lib.hid n1
  have V1 := Lib.hid v1
  have K1 := Lib.hid k1
  clear l1 n1 v1 k1
  go_wp2_with fail
  refine (ladd_any _ _ _ _ NS.out L1.out _ (by omega) N1.out).mono ?_
  rintro z w4 ⟨rfl, g3, l3, n3, v3, k3⟩
  have L3 := Lib.hid l3
  have N3 := Lib.hid n3
  have V3 := Lib.hid v3
  have K3 := Lib.hid k3
  clear l3 n3 v3 k3
  go_wp2_with fail
  refine (ladd_any _ _ _ _ NE.out L3.out _ (by omega) N3.out).mono ?_
  rintro z w5 ⟨rfl, g4, l4, n4, v4, k4⟩
  have L4 := Lib.hid l4
  have N4 := Lib.hid n4
  have V4 := Lib.hid v4
  have K4 := Lib.hid k4
  clear l4 n4 v4 k4
  go_wp2_with fail
  refine (zero_any _ _ _ L4.out _ (by omega) N4.out).mono ?_
  rintro z w6 ⟨rfl, rfl⟩
  have hz : val g4 110 = 0 := by
    rw [V4.out, V3.out, V1.out, val_zero, Int.zero_add, ← Int.add_mul, ← Int.add_mul, HSUM.out, Int.zero_mul]
  have HZ := Lib.hid hz
  clear hz
  go_wp2
  go_ret
  refine ⟨?_, ?_⟩
  · show Ending.returned (Value.bool (decide (val g4 110 = 0))) = _
    rw [decide_eq_true HZ.out]
  · have hle : w.heap.size ≤ w1.heap.size := HB.out.size
    have k := ((K1.out.trans K3.out).trans K4.out).below (by simp)
    exact B3.out.trans (k.mono hle)

theorem splits_all (a : Int) (w : World) :
    Calls Try.prog 17 #[.int .i64 a] w fun z w' => z = .returned (.bool true) ∧ Below w.heap.size w w' := by
  obtain ⟨A, k, ma, k1, k2⟩ := mildF_spec a
  obtain ⟨x, hx⟩ : ∃ x, mildF a = x := ⟨_, rfl⟩
  rw [hx] at ma
  obtain ⟨h, l, h1, fh, fl, vh, vl, _, _⟩ := splitF_spec ma.f ma.e (Nat.le_of_lt ma.lt) (by omega)
  obtain ⟨ns, es⟩ := fneg_spec fh
  obtain ⟨ne, ee⟩ := fneg_spec fl
  have key : (∃ c : Int, iv h = c * 2 ^ (27 + k) ∧ c.natAbs < 134217728) ∧ (splitL A).natAbs < 134217728 ∧ splitL A = A - splitH A := by
    rcases ma.n with h0 | h0
    · subst h0
      rw [splitH_zero, splitL_zero]
      rw [splitH_zero] at vh
      exact ⟨⟨0, by rw [vh]; simp, by decide⟩, by decide, by decide⟩
    · have hv := split_halves A h0 ma.lt
      obtain ⟨g, hg, g1, g2⟩ := hv.h
      have b1 := hv.lo
      have b2 := hv.hi
      refine ⟨⟨g, ?_, by omega⟩, by omega, hv.e⟩
      rw [vh, hg, Int.pow_add, ← Int.mul_assoc]; rfl
  obtain ⟨⟨c, hc1, hc2⟩, hl1, hl2⟩ := key
  refine splits_any a x h l w hx h1 ma.f fh fl (few_of fh hc1 hc2) (few_of fl vl hl1) ns ne ?_
  rw [es, ee, vh, vl, ma.e, hl2, Int.sub_mul]
  omega

end Go.Proofs.Ytnpkblidlmkagaa
