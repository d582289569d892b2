/- The walks of EftSums and EftTurned. -/
import Derived.Test.YtnpkblidlmkagaaW10
import Derived.Test.YtnpkblidlmkagaaW8
import Derived.Test.YtnpkblidlmkagaaFl5
set_option linter.unusedSimpArgs false
set_option linter.unusedVariables false
namespace Go.Proofs.Ytnpkblidlmkagaa
open Go.RowKit Fl

theorem neq_of_eq {x y : Nat} (h : (FloatKind.f64.format.order x y == some Ordering.eq) = true) : (FloatKind.f64.format.order x y != some Ordering.eq) = false := by
  rw [bne, h]; rfl

set_option maxRecDepth 100000 in
set_option maxHeartbeats 4000000 in
theorem sums_any (a b : Int) (x y s e : Nat) (w : World) (hx : mildF a = x) (hy : mildF b = y) (hs : sumF x y = some (s, e)) (ha : fadd x y = some s) (fx : Fnt x) (fy : Fnt y) (h1 : Fnt s) (h2 : Fnt e)
    (ns : Fnt (fneg s)) (ne : Fnt (fneg e)) (hsum : iv x + iv y + iv (fneg s) + iv (fneg e) = 0) (o1 : (FloatKind.f64.format.order s s != some Ordering.eq) = false) :
    Calls Try.prog 14 #[.int .i64 a, .int .i64 b] w fun z w' => z = .returned (.bool true) ∧ Below w.heap.size w w' := by
  have p1 := fun w => mild_any a w
  have p2 := fun w => mild_any b w
  rw [hx] at p1
  rw [hy] at p2
  have c2 := fun w => finite_any e w h2.1
  rw [finB_fnt h2] at c2
  have P1 := Lib.hid p1
  have P2 := Lib.hid p2
  have C2 := Lib.hid c2
  have HS := Lib.hid hs
  have FX := Lib.hid fx
  have FY := Lib.hid fy
  have NS := Lib.hid ns
  have NE := Lib.hid ne
  have HSUM := Lib.hid hsum
  replace ha := hadd ha
  clear p1 p2 hx hy hs h1 h2 fx fy ns ne hsum c2
  go_enter Try.func14, Try.ntmps14
  go_wp2_with fail
  refine (P1.out _).mono ?_
  rintro z w' ⟨rfl, rfl⟩
  go_wp2_with fail
  refine (P2.out _).mono ?_
  rintro z w' ⟨rfl, rfl⟩
  go_wp2_with fail
  refine (sum_any _ _ _ _ _ HS.out).mono ?_
  rintro z w' ⟨rfl, rfl⟩
  go_wp2_with fail
  refine (wakes3_any _).mono ?_
  rintro z w1 ⟨rfl, hb⟩
  have HB := Lib.hid hb
  clear hb
  go_wp2_with (first | simp only [ha] | fail)
  refine (C2.out _).mono ?_
  rintro z w' ⟨rfl, rfl⟩
  have L0 := Lib.hid (limbs_new w1)
  have B3 : Hid (Below w.heap.size w (w1.alloc (.cells Try.zeroCells33 33))) := Lib.hid (HB.out.alloc HB.out.size _)
  go_wp2_with fail
  refine (ladd_any _ _ _ _ FX.out L0.out 0 (by omega) (fun _ => by simp)).mono ?_
  rintro z w2 ⟨rfl, g1, l1, n1, v1, k1⟩
  have L1 := Lib.hid l1
  have N1 := Lib.hid n1
  have V1 := Lib.hid v1
  have K1 := Lib.hid k1
  clear l1 n1 v1 k1
  go_wp2_with fail
  refine (ladd_any _ _ _ _ FY.out L1.out _ (by omega) N1.out).mono ?_
  rintro z w3 ⟨rfl, g2, l2, n2, v2, k2⟩
  have L2 := Lib.hid l2
  have N2 := Lib.hid n2
  have V2 := Lib.hid v2
  have K2 := Lib.hid k2
  clear l2 n2 v2 k2
  go_wp2_with fail
  refine (ladd_any _ _ _ _ NS.out L2.out _ (by omega) N2.out).mono ?_
  rintro z w4 ⟨rfl, g3, l3, n3, v3, k3⟩
  have L3 := Lib.hid l3
  have N3 := Lib.hid n3
  have V3 := Lib.hid v3
  have K3 := Lib.hid k3
  clear l3 n3 v3 k3
  go_wp2_with fail
  refine (ladd_any _ _ _ _ NE.out L3.out _ (by omega) N3.out).mono ?_
  rintro z w5 ⟨rfl, g4, l4, n4, v4, k4⟩
  have L4 := Lib.hid l4
  have N4 := Lib.hid n4
  have V4 := Lib.hid v4
  have K4 := Lib.hid k4
  clear l4 n4 v4 k4
  go_wp2_with fail
  refine (zero_any _ _ _ L4.out _ (by omega) N4.out).mono ?_
  rintro z w6 ⟨rfl, rfl⟩
  have hz : val g4 110 = 0 := by
    rw [V4.out, V3.out, V2.out, V1.out, val_zero, Int.zero_add, ← Int.add_mul, ← Int.add_mul, ← Int.add_mul, HSUM.out, Int.zero_mul]
  have HZ := Lib.hid hz
  clear hz
  go_wp2
  go_ret
  refine ⟨?_, ?_⟩
  · show Ending.returned (Value.bool (decide (val g4 110 = 0))) = _
    rw [decide_eq_true HZ.out]
  · have hle : w.heap.size ≤ w1.heap.size := HB.out.size
    have k := (((K1.out.trans K2.out).trans K3.out).trans K4.out).below (by simp)
    exact B3.out.trans (k.mono hle)

theorem sums_all (a b : Int) (w : World) :
    Calls Try.prog 14 #[.int .i64 a, .int .i64 b] w fun z w' => z = .returned (.bool true) ∧ Below w.heap.size w w' := by
  obtain ⟨A, k, ma, k1, k2⟩ := mildF_spec a
  obtain ⟨B, l, mb, l1, l2⟩ := mildF_spec b
  obtain ⟨x, hx⟩ : ∃ x, mildF a = x := ⟨_, rfl⟩
  obtain ⟨y, hy⟩ : ∃ y, mildF b = y := ⟨_, rfl⟩
  rw [hx] at ma
  rw [hy] at mb
  obtain ⟨s, e, h1, fs, fe, vs, ve⟩ := sumF_spec ma.f mb.f (ma.sm (by omega)) (mb.sm (by omega))
  have ha : fadd x y = some s := by
    have := h1
    simp only [sumF, Option.bind_eq_some_iff, Option.some.injEq, Prod.mk.injEq] at this
    obtain ⟨s', h, t, _, u, _, f, _, d, _, e', _, rfl, rfl⟩ := this
    exact h
  obtain ⟨ns, es⟩ := fneg_spec fs
  obtain ⟨ne, ee⟩ := fneg_spec fe
  exact sums_any a b x y s e w hx hy h1 ha ma.f mb.f fs fe ns ne (by rw [es, ee, ve]; omega) (neq_of_eq (order_eq fs fs rfl))

set_option maxRecDepth 100000 in
set_option maxHeartbeats 4000000 in
theorem turned_any (a b : Int) (x y s e t f u g p h q i r j : Nat) (w : World) (hx : mildF a = x) (hy : mildF b = y)
    (h1 : sumF x y = some (s, e)) (h2 : sumF y x = some (t, f)) (h3 : sumF (fneg x) (fneg y) = some (u, g)) (h4 : prodF x y = some (p, h)) (h5 : prodF y x = some (q, i)) (h6 : prodF (fneg x) y = some (r, j))
    (o1 : (FloatKind.f64.format.order s t == some Ordering.eq) = true) (o2 : (FloatKind.f64.format.order e f == some Ordering.eq) = true)
    (o3 : (FloatKind.f64.format.order s (fneg u) == some Ordering.eq) = true) (o4 : (FloatKind.f64.format.order e (fneg g) == some Ordering.eq) = true)
    (o5 : (FloatKind.f64.format.order p q == some Ordering.eq) = true) (o6 : (FloatKind.f64.format.order h i == some Ordering.eq) = true)
    (o7 : (FloatKind.f64.format.order p (fneg r) == some Ordering.eq) = true) (o8 : (FloatKind.f64.format.order h (fneg j) == some Ordering.eq) = true) :
    Calls Try.prog 19 #[.int .i64 a, .int .i64 b] w fun z w' => z = .returned (.bool true) ∧ Below w.heap.size w w' := by
  have p1 := fun w => mild_any a w
  have p2 := fun w => mild_any b w
  rw [hx] at p1
  rw [hy] at p2
  have P1 := Lib.hid p1
  have P2 := Lib.hid p2
  have H1 := Lib.hid h1
  have H2 := Lib.hid h2
  have H3 := Lib.hid h3
  have H4 := Lib.hid h4
  have H5 := Lib.hid h5
  have H6 := Lib.hid h6
  clear p1 p2 hx hy h1 h2 h3 h4 h5 h6
  go_enter Try.func19, Try.ntmps19
  go_wp2_with fail
  refine (P1.out _).mono ?_
  rintro z w' ⟨rfl, rfl⟩
  go_wp2_with fail
  refine (P2.out _).mono ?_
  rintro z w' ⟨rfl, rfl⟩
  go_wp2_with fail
  refine (sum_any _ _ _ _ _ H1.out).mono ?_
  rintro z w' ⟨rfl, rfl⟩
  go_wp2_with fail
  refine (sum_any _ _ _ _ _ H2.out).mono ?_
  rintro z w' ⟨rfl, rfl⟩
  go_wp2_with fail
  refine (sum_any _ _ _ _ _ H3.out).mono ?_
  rintro z w' ⟨rfl, rfl⟩
  go_wp2_with fail
  refine (prod_any _ _ _ _ _ H4.out).mono ?_
  rintro z w' ⟨rfl, rfl⟩
  go_wp2_with fail
  refine (prod_any _ _ _ _ _ H5.out).mono ?_
  rintro z w' ⟨rfl, rfl⟩
  go_wp2_with fail
  refine (prod_any _ _ _ _ _ H6.out).mono ?_
  rintro z w' ⟨rfl, rfl⟩
  go_wp2_with fail
  refine (wakes3_any _).mono ?_
  rintro z w1 ⟨rfl, hb⟩
  have HB := Lib.hid hb
  clear hb
  go_wp2
  go_ret
  exact ⟨rfl, HB.out⟩

theorem turned_all (a b : Int) (w : World) :
    Calls Try.prog 19 #[.int .i64 a, .int .i64 b] w fun z w' => z = .returned (.bool true) ∧ Below w.heap.size w w' := by
  obtain ⟨A, k, ma, k1, k2⟩ := mildF_spec a
  obtain ⟨B, l, mb, l1, l2⟩ := mildF_spec b
  obtain ⟨x, hx⟩ : ∃ x, mildF a = x := ⟨_, rfl⟩
  obtain ⟨y, hy⟩ : ∃ y, mildF b = y := ⟨_, rfl⟩
  rw [hx] at ma
  rw [hy] at mb
  have sa := ma.sm (by omega)
  have sb := mb.sm (by omega)
  obtain ⟨fx, vx⟩ := fneg_spec ma.f
  obtain ⟨fy, vy⟩ := fneg_spec mb.f
  have sna : Sm (iv (fneg x)) := by rw [vx]; unfold Sm at *; omega
  have snb : Sm (iv (fneg y)) := by rw [vy]; unfold Sm at *; omega
  have mna : Mk (fneg x) (-A) k := ⟨fx, by rw [vx, ma.e, Int.neg_mul], by have := ma.n; omega, by have := ma.lt; omega⟩
  obtain ⟨s, e, h1, fs, fe, vs, ve⟩ := sumF_spec ma.f mb.f sa sb
  obtain ⟨t, f, h2, ft, ff, vt, vf⟩ := sumF_spec mb.f ma.f sb sa
  obtain ⟨u, g, h3, fu, fg, vu, vg⟩ := sumF_spec fx fy sna snb
  have hj : k + l = (k + l - U) + U := by have := U_eq; omega
  have hj2 : k + l - U ≤ 1800 := by have := U_eq; omega
  obtain ⟨p, h, h4, _, fp, fh, vp, vh⟩ := prodF_spec ma mb hj (by omega) (by omega) hj2
  obtain ⟨q, i, h5, _, fq, fi, vq, vi⟩ := prodF_spec mb ma (by omega) (by omega) (by omega) hj2
  obtain ⟨r, j, h6, _, fr, fj, vr, vj⟩ := prodF_spec mna mb hj (by omega) (by omega) hj2
  obtain ⟨nu, eu⟩ := fneg_spec fu
  obtain ⟨ng, eg⟩ := fneg_spec fg
  obtain ⟨nr, er⟩ := fneg_spec fr
  obtain ⟨nj, ej⟩ := fneg_spec fj
  have hc : B * A = A * B := Int.mul_comm _ _
  have hn : -A * B = -(A * B) := Int.neg_mul _ _
  have e1 : iv s = iv t := by rw [vs, vt, Int.add_comm]
  have e3 : iv s = iv (fneg u) := by rw [eu, vu, vs, vx, vy, show -iv x + -iv y = -(iv x + iv y) from by omega, rnd_neg]; omega
  refine turned_any a b x y s e t f u g p h q i r j w hx hy h1 h2 h3 h4 h5 h6 (order_eq fs ft e1) (order_eq fe ff ?_) (order_eq fs nu e3) (order_eq fe ng ?_) (order_eq fp fq ?_) (order_eq fh fi ?_) (order_eq fp nr ?_) (order_eq fh nj ?_)
  · rw [ve, vf, e1]; omega
  · rw [eg, vg, ve, e3, eu, vx, vy]; omega
  · rw [vp, vq, hc]
  · rw [vh, vi, hc]
  · rw [er, vr, vp, hn, rnd_neg, Int.neg_mul]; omega
  · rw [ej, vj, vh, hn, rnd_neg, ← Int.neg_mul]; congr 1; omega

end Go.Proofs.Ytnpkblidlmkagaa
