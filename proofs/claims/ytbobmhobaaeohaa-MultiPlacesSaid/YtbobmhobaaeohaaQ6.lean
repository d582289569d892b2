/- The methods of complex floats and of exec's ring, but Root. -/
import Derived.Test.YtbobmhobaaeohaaQ5
import Derived.Test.YtbobmhobaaeohaaMQ1
set_option linter.unusedSimpArgs false
set_option linter.unusedVariables false
namespace Go.Proofs.Ytbobmhobaaeohaa
open Go.RowKit Go.Lib

def fA (x y : Nat) : Nat := fN Ieee.double.add x y
def fS (x y : Nat) : Nat := fN Ieee.double.sub x y
def fM (x y : Nat) : Nat := fN Ieee.double.mul x y
def fD (x y : Nat) : Nat := fN Ieee.double.div x y
def cadd (a b : Cx) : Cx := (fA a.1 b.1, fA a.2 b.2)
def csub (a b : Cx) : Cx := (fS a.1 b.1, fS a.2 b.2)
def cmul (a b : Cx) : Cx := (fS (fM a.1 b.1) (fM a.2 b.2), fA (fM a.1 b.2) (fM a.2 b.1))
def cover (a : Cx) (n : Int) : Cx := (fD a.1 (nz (floatOfInt .f64 n)), fD a.2 (nz (floatOfInt .f64 n)))

set_option maxRecDepth 100000 in
set_option maxHeartbeats 1000000 in
theorem addC_any (a b : Rx) (w : World) : Calls Try.prog 89 #[cV a, cV b] w fun z w' => (∃ r, z = .returned (cV r) ∧ nC r = cadd (nC a) (nC b)) ∧ Below w.heap.size w w' := by
  have h1 := @run_faddN Try.prog
  have h2 := @run_fsubN Try.prog
  have h3 := @run_fmulN Try.prog
  have h4 := @run_fquoN Try.prog
  go_enter Try.func89, Try.ntmps89
  go_wp2
  generalize e0 : fres Ieee.double.add a.1 b.1 _ = q0
  generalize e1 : fres Ieee.double.add a.2 b.2 _ = q1
  have n0 : nz q0 = fN Ieee.double.add (nz a.1) (nz b.1) := by rw [← e0]; exact nz_fres good_add _ _ _
  have l0 : q0 < 18446744073709551616 := by rw [← e0]; exact fres_lt good_add _ _ _
  have n1 : nz q1 = fN Ieee.double.add (nz a.2) (nz b.2) := by rw [← e1]; exact nz_fres good_add _ _ _
  have l1 : q1 < 18446744073709551616 := by rw [← e1]; exact fres_lt good_add _ _ _
  clear e0 e1
  exact bodyPost_ret (v := cV (⟨q0, l0⟩, ⟨q1, l1⟩)) (by simp [results, Try.results89, go_sem]) rfl ⟨⟨(⟨q0, l0⟩, ⟨q1, l1⟩), rfl, by simp only [nC, cadd, fA, fS, fM, fD, n0, n1]⟩, ((below_drewN ((((Below.refl _ w).alloc (Nat.le_refl _) _).alloc (by simp) _).alloc (by simp; omega) _) _).setCell (p := ⟨_, _, _⟩) (by show w.heap.size ≤ w.heap.size + 1 + 1; omega) _).setCell (p := ⟨_, _, _⟩) (by show w.heap.size ≤ w.heap.size + 1 + 1; omega) _⟩

set_option maxRecDepth 100000 in
set_option maxHeartbeats 1000000 in
theorem subC_any (a b : Rx) (w : World) : Calls Try.prog 92 #[cV a, cV b] w fun z w' => (∃ r, z = .returned (cV r) ∧ nC r = csub (nC a) (nC b)) ∧ Below w.heap.size w w' := by
  have h1 := @run_faddN Try.prog
  have h2 := @run_fsubN Try.prog
  have h3 := @run_fmulN Try.prog
  have h4 := @run_fquoN Try.prog
  go_enter Try.func92, Try.ntmps92
  go_wp2
  generalize e0 : fres Ieee.double.sub a.1 b.1 _ = q0
  generalize e1 : fres Ieee.double.sub a.2 b.2 _ = q1
  have n0 : nz q0 = fN Ieee.double.sub (nz a.1) (nz b.1) := by rw [← e0]; exact nz_fres good_sub _ _ _
  have l0 : q0 < 18446744073709551616 := by rw [← e0]; exact fres_lt good_sub _ _ _
  have n1 : nz q1 = fN Ieee.double.sub (nz a.2) (nz b.2) := by rw [← e1]; exact nz_fres good_sub _ _ _
  have l1 : q1 < 18446744073709551616 := by rw [← e1]; exact fres_lt good_sub _ _ _
  clear e0 e1
  exact bodyPost_ret (v := cV (⟨q0, l0⟩, ⟨q1, l1⟩)) (by simp [results, Try.results92, go_sem]) rfl ⟨⟨(⟨q0, l0⟩, ⟨q1, l1⟩), rfl, by simp only [nC, csub, fA, fS, fM, fD, n0, n1]⟩, ((below_drewN ((((Below.refl _ w).alloc (Nat.le_refl _) _).alloc (by simp) _).alloc (by simp; omega) _) _).setCell (p := ⟨_, _, _⟩) (by show w.heap.size ≤ w.heap.size + 1 + 1; omega) _).setCell (p := ⟨_, _, _⟩) (by show w.heap.size ≤ w.heap.size + 1 + 1; omega) _⟩

set_option maxRecDepth 100000 in
set_option maxHeartbeats 1000000 in
theorem mulC_any (a b : Rx) (w : World) : Calls Try.prog 91 #[cV a, cV b] w fun z w' => (∃ r, z = .returned (cV r) ∧ nC r = cmul (nC a) (nC b)) ∧ Below w.heap.size w w' := by
  have h1 := @run_faddN Try.prog
  have h2 := @run_fsubN Try.prog
  have h3 := @run_fmulN Try.prog
  have h4 := @run_fquoN Try.prog
  go_enter Try.func91, Try.ntmps91
  go_wp2
  generalize e0 : fres Ieee.double.mul a.1 b.1 _ = q0
  generalize e1 : fres Ieee.double.mul a.2 b.2 _ = q1
  generalize e2 : fres Ieee.double.mul a.1 b.2 _ = q2
  generalize e3 : fres Ieee.double.mul a.2 b.1 _ = q3
  generalize e4 : fres Ieee.double.sub q0 q1 _ = q4
  generalize e5 : fres Ieee.double.add q2 q3 _ = q5
  have n0 : nz q0 = fN Ieee.double.mul (nz a.1) (nz b.1) := by rw [← e0]; exact nz_fres good_mul _ _ _
  have l0 : q0 < 18446744073709551616 := by rw [← e0]; exact fres_lt good_mul _ _ _
  have n1 : nz q1 = fN Ieee.double.mul (nz a.2) (nz b.2) := by rw [← e1]; exact nz_fres good_mul _ _ _
  have l1 : q1 < 18446744073709551616 := by rw [← e1]; exact fres_lt good_mul _ _ _
  have n2 : nz q2 = fN Ieee.double.mul (nz a.1) (nz b.2) := by rw [← e2]; exact nz_fres good_mul _ _ _
  have l2 : q2 < 18446744073709551616 := by rw [← e2]; exact fres_lt good_mul _ _ _
  have n3 : nz q3 = fN Ieee.double.mul (nz a.2) (nz b.1) := by rw [← e3]; exact nz_fres good_mul _ _ _
  have l3 : q3 < 18446744073709551616 := by rw [← e3]; exact fres_lt good_mul _ _ _
  have n4 : nz q4 = fN Ieee.double.sub (nz q0) (nz q1) := by rw [← e4]; exact nz_fres good_sub _ _ _
  have l4 : q4 < 18446744073709551616 := by rw [← e4]; exact fres_lt good_sub _ _ _
  have n5 : nz q5 = fN Ieee.double.add (nz q2) (nz q3) := by rw [← e5]; exact nz_fres good_add _ _ _
  have l5 : q5 < 18446744073709551616 := by rw [← e5]; exact fres_lt good_add _ _ _
  clear e0 e1 e2 e3 e4 e5
  exact bodyPost_ret (v := cV (⟨q4, l4⟩, ⟨q5, l5⟩)) (by simp [results, Try.results91, go_sem]) rfl ⟨⟨(⟨q4, l4⟩, ⟨q5, l5⟩), rfl, by simp only [nC, cmul, fA, fS, fM, fD, n5, n4, n3, n2, n1, n0]⟩, ((below_drewN ((((Below.refl _ w).alloc (Nat.le_refl _) _).alloc (by simp) _).alloc (by simp; omega) _) _).setCell (p := ⟨_, _, _⟩) (by show w.heap.size ≤ w.heap.size + 1 + 1; omega) _).setCell (p := ⟨_, _, _⟩) (by show w.heap.size ≤ w.heap.size + 1 + 1; omega) _⟩

theorem box4 (w : World) (m : Value) (a b : Rx) (t s : TypeId) : ∃ W, W = (((w.alloc (.cells #[m] t)).alloc (.cells #[.float .f64 a.1, .float .f64 a.2] s)).alloc (.cells #[.float .f64 b.1, .float .f64 b.2] s)).alloc (.cells #[.float .f64 0, .float .f64 0] s) ∧ Below w.heap.size w W ∧
    W.cell? ⟨w.heap.size + 1, 0, none⟩ = some (.float .f64 a.1) ∧ W.cell? ⟨w.heap.size + 1, 1, none⟩ = some (.float .f64 a.2) ∧ W.cell? ⟨w.heap.size + 1 + 1, 0, none⟩ = some (.float .f64 b.1) ∧ W.cell? ⟨w.heap.size + 1 + 1, 1, none⟩ = some (.float .f64 b.2) ∧
    (W.cell? ⟨w.heap.size + 1 + 1 + 1, 0, none⟩ = some (.float .f64 0) ∧ W.cell? ⟨w.heap.size + 1 + 1 + 1, 1, none⟩ = some (.float .f64 0) ∧ W.frozen? ⟨w.heap.size + 1 + 1 + 1, 0, none⟩ = false ∧ W.frozen? ⟨w.heap.size + 1 + 1 + 1, 1, none⟩ = false) ∧ w.heap.size + 1 + 1 + 1 < W.heap.size :=
  ⟨_, rfl, (((((Below.refl _ w).alloc (Nat.le_refl _) _).alloc (by simp) _).alloc (by simp; omega) _).alloc (by simp; omega) _), by simp [go_sem], by simp [go_sem], by simp [go_sem], by simp [go_sem], ⟨by simp [go_sem], by simp [go_sem], by simp [go_sem], by simp [go_sem]⟩, by simp⟩
set_option maxRecDepth 100000 in
set_option maxHeartbeats 1000000 in
theorem ringAdd_any (m : Nat) (a b : Rx) (w : World) : Calls Try.prog 93 #[.agg #[.map (some m)], cV a, cV b] w fun z w' => (∃ r, z = .returned (cV r) ∧ nC r = cadd (nC a) (nC b)) ∧ Below w.heap.size w w' := by
  go_enter Try.func93, Try.ntmps93
  go_upto_region 1 with (fail)
  obtain ⟨W, hW, hb, a0, a1, b0, b1, ⟨r0, r1, f0, f1⟩, hz⟩ := box4 w (.map (some m)) a b 61 41
  rw [← hW]
  have HB := Lib.hid hb
  clear hW hb
  go_wp2_with fail
  refine (addC_any a b W).mono ?_
  rintro z w1 ⟨⟨r, rfl, hr⟩, hb1⟩
  have g0 := keep_cell hb1 r0
  have g1 := keep_cell hb1 r1
  have g2 := keep_free hb1 hz f0
  have g3 := keep_free hb1 hz f1
  have HB1 := Lib.hid (HB.out.trans (hb1.mono (by omega)))
  have HR := Lib.hid hr
  clear hb1 r0 r1 f0 f1 a0 a1 b0 b1 hr
  go_wp2
  exact bodyPost_ret (v := cV r) (by simp [results, Try.results93, go_sem, g0, g1]) rfl ⟨⟨r, rfl, HR.out⟩, (HB1.out.setCell (p := ⟨_, _, _⟩) (by show w.heap.size ≤ w.heap.size + 1 + 1 + 1; omega) _).setCell (p := ⟨_, _, _⟩) (by show w.heap.size ≤ w.heap.size + 1 + 1 + 1; omega) _⟩

set_option maxRecDepth 100000 in
set_option maxHeartbeats 1000000 in
theorem ringMul_any (m : Nat) (a b : Rx) (w : World) : Calls Try.prog 94 #[.agg #[.map (some m)], cV a, cV b] w fun z w' => (∃ r, z = .returned (cV r) ∧ nC r = cmul (nC a) (nC b)) ∧ Below w.heap.size w w' := by
  go_enter Try.func94, Try.ntmps94
  go_upto_region 1 with (fail)
  obtain ⟨W, hW, hb, a0, a1, b0, b1, ⟨r0, r1, f0, f1⟩, hz⟩ := box4 w (.map (some m)) a b 61 41
  rw [← hW]
  have HB := Lib.hid hb
  clear hW hb
  go_wp2_with fail
  refine (mulC_any a b W).mono ?_
  rintro z w1 ⟨⟨r, rfl, hr⟩, hb1⟩
  have g0 := keep_cell hb1 r0
  have g1 := keep_cell hb1 r1
  have g2 := keep_free hb1 hz f0
  have g3 := keep_free hb1 hz f1
  have HB1 := Lib.hid (HB.out.trans (hb1.mono (by omega)))
  have HR := Lib.hid hr
  clear hb1 r0 r1 f0 f1 a0 a1 b0 b1 hr
  go_wp2
  exact bodyPost_ret (v := cV r) (by simp [results, Try.results94, go_sem, g0, g1]) rfl ⟨⟨r, rfl, HR.out⟩, (HB1.out.setCell (p := ⟨_, _, _⟩) (by show w.heap.size ≤ w.heap.size + 1 + 1 + 1; omega) _).setCell (p := ⟨_, _, _⟩) (by show w.heap.size ≤ w.heap.size + 1 + 1 + 1; omega) _⟩

set_option maxRecDepth 100000 in
set_option maxHeartbeats 1000000 in
theorem ringSub_any (m : Nat) (a b : Rx) (w : World) : Calls Try.prog 97 #[.agg #[.map (some m)], cV a, cV b] w fun z w' => (∃ r, z = .returned (cV r) ∧ nC r = csub (nC a) (nC b)) ∧ Below w.heap.size w w' := by
  go_enter Try.func97, Try.ntmps97
  go_upto_region 1 with (fail)
  obtain ⟨W, hW, hb, a0, a1, b0, b1, ⟨r0, r1, f0, f1⟩, hz⟩ := box4 w (.map (some m)) a b 61 41
  rw [← hW]
  have HB := Lib.hid hb
  clear hW hb
  go_wp2_with fail
  refine (subC_any a b W).mono ?_
  rintro z w1 ⟨⟨r, rfl, hr⟩, hb1⟩
  have g0 := keep_cell hb1 r0
  have g1 := keep_cell hb1 r1
  have g2 := keep_free hb1 hz f0
  have g3 := keep_free hb1 hz f1
  have HB1 := Lib.hid (HB.out.trans (hb1.mono (by omega)))
  have HR := Lib.hid hr
  clear hb1 r0 r1 f0 f1 a0 a1 b0 b1 hr
  go_wp2
  exact bodyPost_ret (v := cV r) (by simp [results, Try.results97, go_sem, g0, g1]) rfl ⟨⟨r, rfl, HR.out⟩, (HB1.out.setCell (p := ⟨_, _, _⟩) (by show w.heap.size ≤ w.heap.size + 1 + 1 + 1; omega) _).setCell (p := ⟨_, _, _⟩) (by show w.heap.size ≤ w.heap.size + 1 + 1 + 1; omega) _⟩

set_option maxRecDepth 100000 in
set_option maxHeartbeats 1000000 in
theorem ringOver_any (m : Nat) (a : Rx) (n : Nat) (w : World) (n1 : 1 ≤ n) (n2 : n ≤ 32768) : Calls Try.prog 95 #[.agg #[.map (some m)], cV a, .int .i64 n] w fun z w' => (∃ r, z = .returned (cV r) ∧ nC r = cover (nC a) n) ∧ Below w.heap.size w w' := by
  have h4 := @run_fquoN Try.prog
  go_enter Try.func95, Try.ntmps95
  go_wp2
  generalize hfl : floatOfInt .f64 (n : Int) = fl
  generalize e0 : fres Ieee.double.div a.1 _ _ = q0
  generalize e1 : fres Ieee.double.div a.2 _ _ = q1
  have n0 : nz q0 = fN Ieee.double.div (nz a.1) (nz fl) := by rw [← e0]; exact nz_fres good_div _ _ _
  have l0 : q0 < 18446744073709551616 := by rw [← e0]; exact fres_lt good_div _ _ _
  have n1 : nz q1 = fN Ieee.double.div (nz a.2) (nz fl) := by rw [← e1]; exact nz_fres good_div _ _ _
  have l1 : q1 < 18446744073709551616 := by rw [← e1]; exact fres_lt good_div _ _ _
  clear e0 e1
  exact bodyPost_ret (v := cV (⟨q0, l0⟩, ⟨q1, l1⟩)) (by simp [results, Try.results95, go_sem]) rfl ⟨⟨(⟨q0, l0⟩, ⟨q1, l1⟩), rfl, by simp only [nC, cover, fD, hfl, n0, n1]⟩, ((below_drewN ((((Below.refl _ w).alloc (Nat.le_refl _) _).alloc (by simp) _).alloc (by simp; omega) _) _).setCell (p := ⟨_, _, _⟩) (by show w.heap.size ≤ w.heap.size + 1 + 1; omega) _).setCell (p := ⟨_, _, _⟩) (by show w.heap.size ≤ w.heap.size + 1 + 1; omega) _⟩

set_option maxRecDepth 100000 in
set_option maxHeartbeats 1000000 in
theorem ringZero_any (m : Nat) (w : World) : Calls Try.prog 98 #[.agg #[.map (some m)]] w fun z w' => (∃ r, z = .returned (cV r) ∧ nC r = (0, 0)) ∧ Below w.heap.size w w' := by
  go_enter Try.func98, Try.ntmps98
  go_wp2
  exact bodyPost_ret (v := cV (0, 0)) (by simp [results, Try.results98, go_sem]) rfl ⟨⟨(0, 0), rfl, nC_zero⟩, ((Below.refl _ w).alloc (Nat.le_refl _) _).alloc (by simp) _⟩

end Go.Proofs.Ytbobmhobaaeohaa
