/- The walk of Times: the product of two floats is added. -/
import Derived.Test.YtnpkblidlmkagaaW10
set_option linter.unusedSimpArgs false
set_option linter.unusedVariables false
namespace Go.Proofs.Ytnpkblidlmkagaa
open Go.RowKit Fl

/-- Put, of nothing at whatever place too. -/
theorem put_val2 (b : Nat) (m e : Int) (f : Nat → Int) (w : World) (he : m = 0 ∨ (-1200 ≤ e ∧ e ≤ 1900)) (hm1 : -9223372036854775807 ≤ m) (hm2 : m ≤ 9223372036854775807)
    (hl : Limbs w b f) (B : Nat) (hB : B ≤ 2 ^ 61) (hf : Bnd f B) :
    Calls Try.prog 78 #[.pointer (some ⟨b, 0, none⟩), .int .i64 m, .int .i64 e] w fun z w' => z = .returned (.tuple #[]) ∧
      ∃ g, Limbs w' b g ∧ Bnd g (B + 2 ^ 32) ∧ val g 110 = val f 110 + m * 2 ^ (e + 1200).toNat ∧ OnlyB b w w' := by
  by_cases h0 : m = 0
  · refine (put_zero b m e w (by simpa using h0)).mono ?_
    rintro z w' ⟨rfl, rfl⟩
    exact ⟨rfl, f, hl, fun i => by have := hf i; omega, by simp [h0], OnlyB.refl _ _⟩
  · exact put_val b m e f w (by omega) (by omega) hm1 hm2 hl B hB hf

set_option maxRecDepth 100000 in
set_option maxHeartbeats 4000000 in
theorem times_pp (b x y : Nat) (f : Nat → Int) (w : World) (m n e e' : Int) (M N p0 p1 q0 q1 v00 v01 v10 v11 : Nat) (hpx : Calls Try.prog 77 #[.float .f64 x] w fun z w' => z = .returned (.tuple #[.int .i64 m, .int .i64 e]) ∧ w = w') (hpy : Calls Try.prog 77 #[.float .f64 y] w fun z w' => z = .returned (.tuple #[.int .i64 n, .int .i64 e']) ∧ w = w')
    (hm : m = (M : Int)) (hn : n = (N : Int))   (hM : M < 9007199254740992) (hN : N < 9007199254740992)
    (a0 : bits BinOp.and IntKind.i64 (M : Int) 134217727 = (p0 : Int)) (a1 : bits BinOp.and IntKind.i64 ((M : Int) / 134217728) 134217727 = (p1 : Int))
    (c0 : bits BinOp.and IntKind.i64 (N : Int) 134217727 = (q0 : Int)) (c1 : bits BinOp.and IntKind.i64 ((N : Int) / 134217728) 134217727 = (q1 : Int))
    (h00 : IntKind.i64.wrap ((p0 : Int) * q0) = (v00 : Int)) (h01 : IntKind.i64.wrap ((p0 : Int) * q1) = (v01 : Int)) (h10 : IntKind.i64.wrap ((p1 : Int) * q0) = (v10 : Int)) (h11 : IntKind.i64.wrap ((p1 : Int) * q1) = (v11 : Int))
    (l00 : v00 < 18014398509481984) (l01 : v01 < 18014398509481984) (l10 : v10 < 18014398509481984) (l11 : v11 < 18014398509481984)
    (he1 : -1074 ≤ e) (he2 : e ≤ 971) (he3 : -1074 ≤ e') (he4 : e' ≤ 971) (hZ : (v00 = 0 ∧ v01 = 0 ∧ v10 = 0 ∧ v11 = 0) ∨ (-1150 ≤ e + e' ∧ e + e' ≤ 1800)) (hl : Limbs w b f) (B : Nat) (hB : B ≤ 2 ^ 60) (hf : Bnd f B) :
    Calls Try.prog 63 #[.pointer (some ⟨b, 0, none⟩), .float .f64 x, .float .f64 y] w fun z w' => z = .returned (.tuple #[]) ∧
      ∃ g, Limbs w' b g ∧ Bnd g (B + 4 * 2 ^ 32) ∧ val g 110 = val f 110 + (v00 : Int) * 2 ^ (e + e' + 1200).toNat + (v01 : Int) * 2 ^ (e + e' + 27 + 1200).toNat + (v10 : Int) * 2 ^ (e + e' + 27 + 1200).toNat + (v11 : Int) * 2 ^ (e + e' + 27 + 27 + 1200).toNat ∧ OnlyB b w w' := by
  have HX := Lib.hid hpx
  have HY := Lib.hid hpy
  have HF := Lib.hid hf
  have HL := Lib.hid hl
  clear hpx hpy hf hl
  subst hm hn
  go_enter Try.func63, Try.ntmps63
  go_wp2_with fail
  refine HX.out.mono ?_
  rintro z w' ⟨rfl, rfl⟩
  go_wp2_with fail
  refine HY.out.mono ?_
  rintro z w' ⟨rfl, rfl⟩
  go_wp2
  refine wp_loop_rounds 3 ?_
  rw [rounds_succ]
  go_wp2
  refine wp_loop_rounds 3 ?_
  rw [rounds_succ]
  go_wp2_with fail
  refine (put_val2 b _ _ f _ (by omega) (by omega) (by omega) HL.out B (by omega) HF.out).mono ?_
  rintro z w1 ⟨rfl, g1, k1, n1, u1, o1⟩
  have L1 := Lib.hid k1
  have N1 := Lib.hid n1
  have U1 := Lib.hid u1
  have O1 := Lib.hid o1
  clear k1 n1 u1 o1
  go_wp2
  rw [rounds_succ]
  go_wp2_with fail
  refine (put_val2 b _ _ g1 _ (by omega) (by omega) (by omega) L1.out _ (by omega) N1.out).mono ?_
  rintro z w2 ⟨rfl, g2, k1, n1, u1, o1⟩
  have L2 := Lib.hid k1
  have N2 := Lib.hid n1
  have U2 := Lib.hid u1
  have O2 := Lib.hid o1
  clear k1 n1 u1 o1
  go_wp2
  rw [rounds_succ]
  go_wp2
  rw [rounds_succ]
  go_wp2
  refine wp_loop_rounds 3 ?_
  rw [rounds_succ]
  go_wp2_with fail
  refine (put_val2 b _ _ g2 _ (by omega) (by omega) (by omega) L2.out _ (by omega) N2.out).mono ?_
  rintro z w3 ⟨rfl, g3, k1, n1, u1, o1⟩
  have L3 := Lib.hid k1
  have N3 := Lib.hid n1
  have U3 := Lib.hid u1
  have O3 := Lib.hid o1
  clear k1 n1 u1 o1
  go_wp2
  rw [rounds_succ]
  go_wp2_with fail
  refine (put_val2 b _ _ g3 _ (by omega) (by omega) (by omega) L3.out _ (by omega) N3.out).mono ?_
  rintro z w4 ⟨rfl, g4, k1, n1, u1, o1⟩
  have L4 := Lib.hid k1
  have N4 := Lib.hid n1
  have U4 := Lib.hid u1
  have O4 := Lib.hid o1
  clear k1 n1 u1 o1
  go_wp2
  rw [rounds_succ]
  go_wp2
  rw [rounds_succ]
  go_wp2
  go_end0
  refine ⟨rfl, g4, L4.out, ?_, ?_, ((O1.out.trans O2.out).trans O3.out).trans O4.out⟩
  · have := N4.out
    rwa [show B + 2 ^ 32 + 2 ^ 32 + 2 ^ 32 + 2 ^ 32 = B + 4 * 2 ^ 32 from by omega] at this
  · rw [U4.out, U3.out, U2.out, U1.out]

set_option maxRecDepth 100000 in
set_option maxHeartbeats 4000000 in
theorem times_pn (b x y : Nat) (f : Nat → Int) (w : World) (m n e e' : Int) (M N p0 p1 q0 q1 v00 v01 v10 v11 : Nat) (hpx : Calls Try.prog 77 #[.float .f64 x] w fun z w' => z = .returned (.tuple #[.int .i64 m, .int .i64 e]) ∧ w = w') (hpy : Calls Try.prog 77 #[.float .f64 y] w fun z w' => z = .returned (.tuple #[.int .i64 n, .int .i64 e']) ∧ w = w')
    (hm : m = (M : Int)) (hn : n = -(N : Int))  (hN0 : 0 < N) (hM : M < 9007199254740992) (hN : N < 9007199254740992)
    (a0 : bits BinOp.and IntKind.i64 (M : Int) 134217727 = (p0 : Int)) (a1 : bits BinOp.and IntKind.i64 ((M : Int) / 134217728) 134217727 = (p1 : Int))
    (c0 : bits BinOp.and IntKind.i64 (N : Int) 134217727 = (q0 : Int)) (c1 : bits BinOp.and IntKind.i64 ((N : Int) / 134217728) 134217727 = (q1 : Int))
    (h00 : IntKind.i64.wrap ((p0 : Int) * q0) = (v00 : Int)) (h01 : IntKind.i64.wrap ((p0 : Int) * q1) = (v01 : Int)) (h10 : IntKind.i64.wrap ((p1 : Int) * q0) = (v10 : Int)) (h11 : IntKind.i64.wrap ((p1 : Int) * q1) = (v11 : Int))
    (l00 : v00 < 18014398509481984) (l01 : v01 < 18014398509481984) (l10 : v10 < 18014398509481984) (l11 : v11 < 18014398509481984)
    (he1 : -1074 ≤ e) (he2 : e ≤ 971) (he3 : -1074 ≤ e') (he4 : e' ≤ 971) (hZ : (v00 = 0 ∧ v01 = 0 ∧ v10 = 0 ∧ v11 = 0) ∨ (-1150 ≤ e + e' ∧ e + e' ≤ 1800)) (hl : Limbs w b f) (B : Nat) (hB : B ≤ 2 ^ 60) (hf : Bnd f B) :
    Calls Try.prog 63 #[.pointer (some ⟨b, 0, none⟩), .float .f64 x, .float .f64 y] w fun z w' => z = .returned (.tuple #[]) ∧
      ∃ g, Limbs w' b g ∧ Bnd g (B + 4 * 2 ^ 32) ∧ val g 110 = val f 110 + -(v00 : Int) * 2 ^ (e + e' + 1200).toNat + -(v01 : Int) * 2 ^ (e + e' + 27 + 1200).toNat + -(v10 : Int) * 2 ^ (e + e' + 27 + 1200).toNat + -(v11 : Int) * 2 ^ (e + e' + 27 + 27 + 1200).toNat ∧ OnlyB b w w' := by
  have HX := Lib.hid hpx
  have HY := Lib.hid hpy
  have HF := Lib.hid hf
  have HL := Lib.hid hl
  clear hpx hpy hf hl
  subst hm hn
  go_enter Try.func63, Try.ntmps63
  go_wp2_with fail
  refine HX.out.mono ?_
  rintro z w' ⟨rfl, rfl⟩
  go_wp2_with fail
  refine HY.out.mono ?_
  rintro z w' ⟨rfl, rfl⟩
  go_wp2
  refine wp_loop_rounds 3 ?_
  rw [rounds_succ]
  go_wp2
  refine wp_loop_rounds 3 ?_
  rw [rounds_succ]
  go_wp2_with fail
  refine (put_val2 b _ _ f _ (by omega) (by omega) (by omega) HL.out B (by omega) HF.out).mono ?_
  rintro z w1 ⟨rfl, g1, k1, n1, u1, o1⟩
  have L1 := Lib.hid k1
  have N1 := Lib.hid n1
  have U1 := Lib.hid u1
  have O1 := Lib.hid o1
  clear k1 n1 u1 o1
  go_wp2
  rw [rounds_succ]
  go_wp2_with fail
  refine (put_val2 b _ _ g1 _ (by omega) (by omega) (by omega) L1.out _ (by omega) N1.out).mono ?_
  rintro z w2 ⟨rfl, g2, k1, n1, u1, o1⟩
  have L2 := Lib.hid k1
  have N2 := Lib.hid n1
  have U2 := Lib.hid u1
  have O2 := Lib.hid o1
  clear k1 n1 u1 o1
  go_wp2
  rw [rounds_succ]
  go_wp2
  rw [rounds_succ]
  go_wp2
  refine wp_loop_rounds 3 ?_
  rw [rounds_succ]
  go_wp2_with fail
  refine (put_val2 b _ _ g2 _ (by omega) (by omega) (by omega) L2.out _ (by omega) N2.out).mono ?_
  rintro z w3 ⟨rfl, g3, k1, n1, u1, o1⟩
  have L3 := Lib.hid k1
  have N3 := Lib.hid n1
  have U3 := Lib.hid u1
  have O3 := Lib.hid o1
  clear k1 n1 u1 o1
  go_wp2
  rw [rounds_succ]
  go_wp2_with fail
  refine (put_val2 b _ _ g3 _ (by omega) (by omega) (by omega) L3.out _ (by omega) N3.out).mono ?_
  rintro z w4 ⟨rfl, g4, k1, n1, u1, o1⟩
  have L4 := Lib.hid k1
  have N4 := Lib.hid n1
  have U4 := Lib.hid u1
  have O4 := Lib.hid o1
  clear k1 n1 u1 o1
  go_wp2
  rw [rounds_succ]
  go_wp2
  rw [rounds_succ]
  go_wp2
  go_end0
  refine ⟨rfl, g4, L4.out, ?_, ?_, ((O1.out.trans O2.out).trans O3.out).trans O4.out⟩
  · have := N4.out
    rwa [show B + 2 ^ 32 + 2 ^ 32 + 2 ^ 32 + 2 ^ 32 = B + 4 * 2 ^ 32 from by omega] at this
  · rw [U4.out, U3.out, U2.out, U1.out]

set_option maxRecDepth 100000 in
set_option maxHeartbeats 4000000 in
theorem times_np (b x y : Nat) (f : Nat → Int) (w : World) (m n e e' : Int) (M N p0 p1 q0 q1 v00 v01 v10 v11 : Nat) (hpx : Calls Try.prog 77 #[.float .f64 x] w fun z w' => z = .returned (.tuple #[.int .i64 m, .int .i64 e]) ∧ w = w') (hpy : Calls Try.prog 77 #[.float .f64 y] w fun z w' => z = .returned (.tuple #[.int .i64 n, .int .i64 e']) ∧ w = w')
    (hm : m = -(M : Int)) (hn : n = (N : Int)) (hM0 : 0 < M)  (hM : M < 9007199254740992) (hN : N < 9007199254740992)
    (a0 : bits BinOp.and IntKind.i64 (M : Int) 134217727 = (p0 : Int)) (a1 : bits BinOp.and IntKind.i64 ((M : Int) / 134217728) 134217727 = (p1 : Int))
    (c0 : bits BinOp.and IntKind.i64 (N : Int) 134217727 = (q0 : Int)) (c1 : bits BinOp.and IntKind.i64 ((N : Int) / 134217728) 134217727 = (q1 : Int))
    (h00 : IntKind.i64.wrap ((p0 : Int) * q0) = (v00 : Int)) (h01 : IntKind.i64.wrap ((p0 : Int) * q1) = (v01 : Int)) (h10 : IntKind.i64.wrap ((p1 : Int) * q0) = (v10 : Int)) (h11 : IntKind.i64.wrap ((p1 : Int) * q1) = (v11 : Int))
    (l00 : v00 < 18014398509481984) (l01 : v01 < 18014398509481984) (l10 : v10 < 18014398509481984) (l11 : v11 < 18014398509481984)
    (he1 : -1074 ≤ e) (he2 : e ≤ 971) (he3 : -1074 ≤ e') (he4 : e' ≤ 971) (hZ : (v00 = 0 ∧ v01 = 0 ∧ v10 = 0 ∧ v11 = 0) ∨ (-1150 ≤ e + e' ∧ e + e' ≤ 1800)) (hl : Limbs w b f) (B : Nat) (hB : B ≤ 2 ^ 60) (hf : Bnd f B) :
    Calls Try.prog 63 #[.pointer (some ⟨b, 0, none⟩), .float .f64 x, .float .f64 y] w fun z w' => z = .returned (.tuple #[]) ∧
      ∃ g, Limbs w' b g ∧ Bnd g (B + 4 * 2 ^ 32) ∧ val g 110 = val f 110 + -(v00 : Int) * 2 ^ (e + e' + 1200).toNat + -(v01 : Int) * 2 ^ (e + e' + 27 + 1200).toNat + -(v10 : Int) * 2 ^ (e + e' + 27 + 1200).toNat + -(v11 : Int) * 2 ^ (e + e' + 27 + 27 + 1200).toNat ∧ OnlyB b w w' := by
  have HX := Lib.hid hpx
  have HY := Lib.hid hpy
  have HF := Lib.hid hf
  have HL := Lib.hid hl
  clear hpx hpy hf hl
  subst hm hn
  go_enter Try.func63, Try.ntmps63
  go_wp2_with fail
  refine HX.out.mono ?_
  rintro z w' ⟨rfl, rfl⟩
  go_wp2_with fail
  refine HY.out.mono ?_
  rintro z w' ⟨rfl, rfl⟩
  go_wp2
  refine wp_loop_rounds 3 ?_
  rw [rounds_succ]
  go_wp2
  refine wp_loop_rounds 3 ?_
  rw [rounds_succ]
  go_wp2_with fail
  refine (put_val2 b _ _ f _ (by omega) (by omega) (by omega) HL.out B (by omega) HF.out).mono ?_
  rintro z w1 ⟨rfl, g1, k1, n1, u1, o1⟩
  have L1 := Lib.hid k1
  have N1 := Lib.hid n1
  have U1 := Lib.hid u1
  have O1 := Lib.hid o1
  clear k1 n1 u1 o1
  go_wp2
  rw [rounds_succ]
  go_wp2_with fail
  refine (put_val2 b _ _ g1 _ (by omega) (by omega) (by omega) L1.out _ (by omega) N1.out).mono ?_
  rintro z w2 ⟨rfl, g2, k1, n1, u1, o1⟩
  have L2 := Lib.hid k1
  have N2 := Lib.hid n1
  have U2 := Lib.hid u1
  have O2 := Lib.hid o1
  clear k1 n1 u1 o1
  go_wp2
  rw [rounds_succ]
  go_wp2
  rw [rounds_succ]
  go_wp2
  refine wp_loop_rounds 3 ?_
  rw [rounds_succ]
  go_wp2_with fail
  refine (put_val2 b _ _ g2 _ (by omega) (by omega) (by omega) L2.out _ (by omega) N2.out).mono ?_
  rintro z w3 ⟨rfl, g3, k1, n1, u1, o1⟩
  have L3 := Lib.hid k1
  have N3 := Lib.hid n1
  have U3 := Lib.hid u1
  have O3 := Lib.hid o1
  clear k1 n1 u1 o1
  go_wp2
  rw [rounds_succ]
  go_wp2_with fail
  refine (put_val2 b _ _ g3 _ (by omega) (by omega) (by omega) L3.out _ (by omega) N3.out).mono ?_
  rintro z w4 ⟨rfl, g4, k1, n1, u1, o1⟩
  have L4 := Lib.hid k1
  have N4 := Lib.hid n1
  have U4 := Lib.hid u1
  have O4 := Lib.hid o1
  clear k1 n1 u1 o1
  go_wp2
  rw [rounds_succ]
  go_wp2
  rw [rounds_succ]
  go_wp2
  go_end0
  refine ⟨rfl, g4, L4.out, ?_, ?_, ((O1.out.trans O2.out).trans O3.out).trans O4.out⟩
  · have := N4.out
    rwa [show B + 2 ^ 32 + 2 ^ 32 + 2 ^ 32 + 2 ^ 32 = B + 4 * 2 ^ 32 from by omega] at this
  · rw [U4.out, U3.out, U2.out, U1.out]

set_option maxRecDepth 100000 in
set_option maxHeartbeats 4000000 in
theorem times_nn (b x y : Nat) (f : Nat → Int) (w : World) (m n e e' : Int) (M N p0 p1 q0 q1 v00 v01 v10 v11 : Nat) (hpx : Calls Try.prog 77 #[.float .f64 x] w fun z w' => z = .returned (.tuple #[.int .i64 m, .int .i64 e]) ∧ w = w') (hpy : Calls Try.prog 77 #[.float .f64 y] w fun z w' => z = .returned (.tuple #[.int .i64 n, .int .i64 e']) ∧ w = w')
    (hm : m = -(M : Int)) (hn : n = -(N : Int)) (hM0 : 0 < M) (hN0 : 0 < N) (hM : M < 9007199254740992) (hN : N < 9007199254740992)
    (a0 : bits BinOp.and IntKind.i64 (M : Int) 134217727 = (p0 : Int)) (a1 : bits BinOp.and IntKind.i64 ((M : Int) / 134217728) 134217727 = (p1 : Int))
    (c0 : bits BinOp.and IntKind.i64 (N : Int) 134217727 = (q0 : Int)) (c1 : bits BinOp.and IntKind.i64 ((N : Int) / 134217728) 134217727 = (q1 : Int))
    (h00 : IntKind.i64.wrap ((p0 : Int) * q0) = (v00 : Int)) (h01 : IntKind.i64.wrap ((p0 : Int) * q1) = (v01 : Int)) (h10 : IntKind.i64.wrap ((p1 : Int) * q0) = (v10 : Int)) (h11 : IntKind.i64.wrap ((p1 : Int) * q1) = (v11 : Int))
    (l00 : v00 < 18014398509481984) (l01 : v01 < 18014398509481984) (l10 : v10 < 18014398509481984) (l11 : v11 < 18014398509481984)
    (he1 : -1074 ≤ e) (he2 : e ≤ 971) (he3 : -1074 ≤ e') (he4 : e' ≤ 971) (hZ : (v00 = 0 ∧ v01 = 0 ∧ v10 = 0 ∧ v11 = 0) ∨ (-1150 ≤ e + e' ∧ e + e' ≤ 1800)) (hl : Limbs w b f) (B : Nat) (hB : B ≤ 2 ^ 60) (hf : Bnd f B) :
    Calls Try.prog 63 #[.pointer (some ⟨b, 0, none⟩), .float .f64 x, .float .f64 y] w fun z w' => z = .returned (.tuple #[]) ∧
      ∃ g, Limbs w' b g ∧ Bnd g (B + 4 * 2 ^ 32) ∧ val g 110 = val f 110 + (v00 : Int) * 2 ^ (e + e' + 1200).toNat + (v01 : Int) * 2 ^ (e + e' + 27 + 1200).toNat + (v10 : Int) * 2 ^ (e + e' + 27 + 1200).toNat + (v11 : Int) * 2 ^ (e + e' + 27 + 27 + 1200).toNat ∧ OnlyB b w w' := by
  have HX := Lib.hid hpx
  have HY := Lib.hid hpy
  have HF := Lib.hid hf
  have HL := Lib.hid hl
  clear hpx hpy hf hl
  subst hm hn
  go_enter Try.func63, Try.ntmps63
  go_wp2_with fail
  refine HX.out.mono ?_
  rintro z w' ⟨rfl, rfl⟩
  go_wp2_with fail
  refine HY.out.mono ?_
  rintro z w' ⟨rfl, rfl⟩
  go_wp2
  refine wp_loop_rounds 3 ?_
  rw [rounds_succ]
  go_wp2
  refine wp_loop_rounds 3 ?_
  rw [rounds_succ]
  go_wp2_with fail
  refine (put_val2 b _ _ f _ (by omega) (by omega) (by omega) HL.out B (by omega) HF.out).mono ?_
  rintro z w1 ⟨rfl, g1, k1, n1, u1, o1⟩
  have L1 := Lib.hid k1
  have N1 := Lib.hid n1
  have U1 := Lib.hid u1
  have O1 := Lib.hid o1
  clear k1 n1 u1 o1
  go_wp2
  rw [rounds_succ]
  go_wp2_with fail
  refine (put_val2 b _ _ g1 _ (by omega) (by omega) (by omega) L1.out _ (by omega) N1.out).mono ?_
  rintro z w2 ⟨rfl, g2, k1, n1, u1, o1⟩
  have L2 := Lib.hid k1
  have N2 := Lib.hid n1
  have U2 := Lib.hid u1
  have O2 := Lib.hid o1
  clear k1 n1 u1 o1
  go_wp2
  rw [rounds_succ]
  go_wp2
  rw [rounds_succ]
  go_wp2
  refine wp_loop_rounds 3 ?_
  rw [rounds_succ]
  go_wp2_with fail
  refine (put_val2 b _ _ g2 _ (by omega) (by omega) (by omega) L2.out _ (by omega) N2.out).mono ?_
  rintro z w3 ⟨rfl, g3, k1, n1, u1, o1⟩
  have L3 := Lib.hid k1
  have N3 := Lib.hid n1
  have U3 := Lib.hid u1
  have O3 := Lib.hid o1
  clear k1 n1 u1 o1
  go_wp2
  rw [rounds_succ]
  go_wp2_with fail
  refine (put_val2 b _ _ g3 _ (by omega) (by omega) (by omega) L3.out _ (by omega) N3.out).mono ?_
  rintro z w4 ⟨rfl, g4, k1, n1, u1, o1⟩
  have L4 := Lib.hid k1
  have N4 := Lib.hid n1
  have U4 := Lib.hid u1
  have O4 := Lib.hid o1
  clear k1 n1 u1 o1
  go_wp2
  rw [rounds_succ]
  go_wp2
  rw [rounds_succ]
  go_wp2
  go_end0
  refine ⟨rfl, g4, L4.out, ?_, ?_, ((O1.out.trans O2.out).trans O3.out).trans O4.out⟩
  · have := N4.out
    rwa [show B + 2 ^ 32 + 2 ^ 32 + 2 ^ 32 + 2 ^ 32 = B + 4 * 2 ^ 32 from by omega] at this
  · rw [U4.out, U3.out, U2.out, U1.out]

end Go.Proofs.Ytnpkblidlmkagaa
