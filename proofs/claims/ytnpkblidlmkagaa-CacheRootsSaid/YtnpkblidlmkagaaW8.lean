/- The walk of DDMakes. -/
import Derived.Test.YtnpkblidlmkagaaW7
import Derived.Deep.RegionHeld3
set_option linter.unusedSimpArgs false
set_option linter.unusedVariables false
namespace Go.Proofs.Ytnpkblidlmkagaa
open Go.RowKit Fl

theorem sk {b : Nat} {u v : Value} {w0 w w1 : World} (hb : Below w.heap.size w w1) (h : w.cell? ⟨b, 0, none⟩ = some u ∧ w.cell? ⟨b, 1, none⟩ = some v ∧ Hid (Below w0.heap.size w0 w)) :
    w1.cell? ⟨b, 0, none⟩ = some u ∧ w1.cell? ⟨b, 1, none⟩ = some v ∧ Hid (Below w0.heap.size w0 w1) :=
  ⟨keep_cell hb h.1, keep_cell hb h.2.1, Lib.hid (h.2.2.out.trans (hb.mono h.2.2.out.size))⟩

theorem zc33 : Try.zeroCells33 = Array.replicate 110 (.int .i64 0) := by kernel_rfl

theorem limbs_new (w : World) : Limbs (w.alloc (.cells Try.zeroCells33 33)) w.heap.size (fun _ => 0) := by
  intro i hi
  refine ⟨?_, World.frozen?_alloc_new _ _ _ _⟩
  rw [World.cell?_alloc_new, zc33]
  simp [hi]

theorem val_zero : ∀ n, val (fun _ => 0) n = 0
  | 0 => rfl
  | n + 1 => by unfold val; rw [val_zero n]; simp

set_option maxRecDepth 100000 in
set_option maxHeartbeats 4000000 in
theorem makes_any (a b : Int) (x y s e r s' e' : Nat) (w : World) (hx : partF a (-400) 800 = x) (hy : partF b (-400) 800 = y) (hs : sumF x y = some (s, e)) (h1 : Fnt s) (h2 : Fnt e)
    (hf : fadd s e = some r) (hv : (D.order r s == some .eq) = true) (m1 : fmul 4607182418800017408 s = some s') (m2 : fmul 4607182418800017408 e = some e') (hs' : Fnt s') (he' : Fnt e') (hx' : Fnt (fneg x)) (hy' : Fnt (fneg y)) (hsum : iv s' + iv e' + iv (fneg x) + iv (fneg y) = 0) (o1 : (FloatKind.f64.format.order (fneg s) (fneg s) == some Ordering.eq) = true) (o2 : (FloatKind.f64.format.order (fneg e) (fneg e) == some Ordering.eq) = true) :
    Calls Try.prog 3 #[.int .i64 a, .int .i64 b] w fun z w' => z = .returned (.bool true) ∧ Below w.heap.size w w' := by
  have p1 := fun w => part_any a (-400) 800 w (by omega) (by omega) (by omega) (by omega)
  have p2 := fun w => part_any b (-400) 800 w (by omega) (by omega) (by omega) (by omega)
  rw [hx] at p1
  rw [hy] at p2
  have P1 := Lib.hid p1
  have P2 := Lib.hid p2
  have HS := Lib.hid hs
  have H1 := Lib.hid h1
  have H2 := Lib.hid h2
  have HF := Lib.hid hf
  have HV := Lib.hid hv
  have M1 := Lib.hid m1
  have M2 := Lib.hid m2
  have HS' := Lib.hid hs'
  have HE' := Lib.hid he'
  have HX' := Lib.hid hx'
  have HY' := Lib.hid hy'
  have HSUM := Lib.hid hsum
  clear p1 p2 hx hy hs h1 h2 hf hv m1 m2 hs' he' hx' hy' hsum
  go_enter Try.func3, Try.ntmps3
  go_wp2_with fail
  refine (P1.out _).mono ?_
  rintro z w' ⟨rfl, rfl⟩
  go_wp2_with fail
  refine (P2.out _).mono ?_
  rintro z w' ⟨rfl, rfl⟩
  go_wp2_with fail
  refine (new_any _ _ _ _ _ HS.out).mono ?_
  rintro z w1 ⟨rfl, hb⟩
  go_wp2_with fail
  have T : Two (w1.alloc (.cells #[.float .f64 s, .float .f64 e] 25)) w1.heap.size (.float .f64 s) (.float .f64 e) := ⟨by simp [go_sem], by simp [go_sem], by simp [go_sem], by simp [go_sem]⟩
  have B1 : Hid (Below w.heap.size w (w1.alloc (.cells #[.float .f64 s, .float .f64 e] 25)).drew) := Lib.hid (hb.alloc hb.size _).drew
  obtain ⟨r0, r1, f0, f1⟩ := T
  go_region_held3 (fun w' => w'.cell? ⟨w1.heap.size, 0, none⟩ = some (.float .f64 s) ∧ w'.cell? ⟨w1.heap.size, 1, none⟩ = some (.float .f64 e) ∧ Hid (Below w.heap.size w w'))
    (first | exact ⟨r0, r1, B1⟩ | exact sk (by assumption) (by assumption))
    (first
      | (go_at_call 27; refine (wakes4_any _).mono ?_; rintro z w' ⟨rfl, hbb⟩)
      | (go_at_call 28; refine (fine_any _ _ _ _ H1.out H2.out HF.out HV.out).mono ?_; rintro z w' ⟨rfl, hbb⟩)
      | (go_at_call 29; refine (neg_any _ _ _).mono ?_; rintro z w' ⟨rfl, hbb⟩))
  obtain ⟨q0, q1, B2⟩ : _ ∧ _ ∧ Hid (Below w.heap.size w _) := by assumption
  have hlt := World.block_lt_of_cell? _ _ q0
  have L0 := Lib.hid (limbs_new w')
  have B3 : Hid (Below w.heap.size w (w'.alloc (.cells Try.zeroCells33 33))) := Lib.hid (B2.out.alloc B2.out.size _)
  clear r0 r1 f0 f1 B1 hb
  go_wp2_with fail
  refine (lput_any _ _ _ _ _ _ _ _ M1.out M2.out HS'.out HE'.out L0.out 0 (by omega) (fun _ => by simp)).mono ?_
  rintro z w2 ⟨rfl, g1, l1, n1, v1, k1⟩
  have L1 := Lib.hid l1
  have N1 := Lib.hid n1
  have V1 := Lib.hid v1
  have K1 := Lib.hid k1
  clear l1 n1 v1 k1
  go_wp2_with fail
  refine (ladd_any _ _ _ _ HX'.out L1.out _ (by omega) N1.out).mono ?_
  rintro z w3 ⟨rfl, g2, l2, n2, v2, k2⟩
  have L2 := Lib.hid l2
  have N2 := Lib.hid n2
  have V2 := Lib.hid v2
  have K2 := Lib.hid k2
  clear l2 n2 v2 k2
  go_wp2_with fail
  refine (ladd_any _ _ _ _ HY'.out L2.out _ (by omega) N2.out).mono ?_
  rintro z w4 ⟨rfl, g3, l3, n3, v3, k3⟩
  have L3 := Lib.hid l3
  have N3 := Lib.hid n3
  have V3 := Lib.hid v3
  have K3 := Lib.hid k3
  clear l3 n3 v3 k3
  go_wp2_with fail
  refine (zero_any _ _ _ L3.out _ (by omega) N3.out).mono ?_
  rintro z w5 ⟨rfl, rfl⟩
  have hz : val g3 110 = 0 := by
    rw [V3.out, V2.out, V1.out, val_zero, Int.zero_add, ← Int.add_mul, ← Int.add_mul, HSUM.out, Int.zero_mul]
  have HZ := Lib.hid hz
  clear hz
  go_wp2
  go_ret
  refine ⟨?_, ?_⟩
  · show Ending.returned (Value.bool (decide (val g3 110 = 0))) = _
    rw [decide_eq_true HZ.out]
  · have hle : w.heap.size ≤ w'.heap.size := B2.out.size
    have k := ((K1.out.trans K2.out).trans K3.out).below (by simp)
    exact B3.out.trans (k.mono hle)
end Go.Proofs.Ytnpkblidlmkagaa
