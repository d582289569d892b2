/- The walk of the law TrigTurned. -/
import Derived.Test.YtnpkblidlmkagaaV9
import Derived.Test.YtnpkblidlmkagaaV8
import Derived.BigQuiet
set_option linter.unusedSimpArgs false
set_option linter.unusedVariables false
namespace Go.Proofs.Ytnpkblidlmkagaa
open Go.RowKit Fl

theorem ord_eq {x y : Nat} (fx : Fnt x) (fy : Fnt y) (h : iv x = iv y) : (FloatKind.f64.format.order x y == some Ordering.eq) = true := order_eq fx fy h
theorem ord_ne {x y : Nat} (fx : Fnt x) (fy : Fnt y) (h : iv x = iv y) : (FloatKind.f64.format.order x y != some Ordering.eq) = false := by
  simp only [bne]
  rw [ord_eq fx fy h]; rfl
theorem ord_neg {x y : Nat} (fx : Fnt x) (fy : Fnt y) (h : iv x = - iv y) : (FloatKind.f64.format.order x (fneg y) == some Ordering.eq) = true := by
  obtain ⟨f, v⟩ := fneg_spec fy
  exact ord_eq fx f (by rw [v, h])
theorem ord_neg_ne {x y : Nat} (fx : Fnt x) (fy : Fnt y) (h : iv x = - iv y) : (FloatKind.f64.format.order x (fneg y) != some Ordering.eq) = false := by
  simp only [bne]
  rw [ord_neg fx fy h]; rfl

set_option maxRecDepth 100000 in
set_option maxHeartbeats 8000000 in
theorem trigTurned_all (k n : Int) (w : World) (hn : -9223372036854775808 ≤ n) (hn2 : n ≤ 9223372036854775807) :
    Calls Try.prog 9 #[.int .i64 k, .int .i64 n] w fun z w' => z = .returned (.bool true) ∧ Below w.heap.size w w' := by
  have PA := Lib.hid (fun w => parts5_any n 1099511627776 w hn hn2 (by omega) (by omega))
  obtain ⟨m, hm⟩ : ∃ m : Int, m = 1 + (if n < 0 then -(n + 1) else n) % 1099511627776 := ⟨_, rfl⟩
  rw [← hm] at PA
  have m1 : 1 ≤ m := by rw [hm]; have := Int.emod_nonneg (if n < 0 then -(n + 1) else n) (show (1099511627776 : Int) ≠ 0 by omega); omega
  have m2 : m ≤ 1099511627776 := by rw [hm]; have := Int.emod_lt_of_pos (if n < 0 then -(n + 1) else n) (show (0 : Int) < 1099511627776 by omega); omega
  clear hm hn hn2
  obtain ⟨K, hK⟩ : ∃ K : Int, k.tmod 1152921504606846976 = K := ⟨_, rfl⟩
  have hKb : -1152921504606846976 ≤ K ∧ K < 1152921504606846976 := by
    obtain ⟨r1, r2⟩ := rem_fix k 1152921504606846976 (by omega)
    have q1 := Int.emod_nonneg k (show (1152921504606846976 : Int) ≠ 0 by omega)
    have q2 := Int.emod_lt_of_pos k (show (0 : Int) < 1152921504606846976 by omega)
    omega
  have wr1 : wrap64 (K + m) = K + m := wrapIn (by omega) (by omega)
  have wr2 : wrap64 (-K) = -K := wrapIn (by omega) (by omega)
  have wr3 : wrap64 (K + m / 4) = K + m / 4 := wrapIn (by omega) (by omega)
  obtain ⟨p1, p2⟩ := ex_period K m m1
  obtain ⟨g1, g2⟩ := ex_neg K m m1 m2
  obtain ⟨sc, ss⟩ := ex_sml (k := K) m1 m2
  obtain ⟨_, sg⟩ := ex_sml (k := -K) m1 m2
  obtain ⟨sh, si⟩ := ex_sml (k := K + m / 4) m1 m2
  have e1 := fun w => exact_fn K m w m1 m2
  have e2 := fun w => exact_fn (K + m) m w m1 m2
  have e3 := fun w => exact_fn (-K) m w m1 m2
  have e4 := fun w => exact_fn (K + m / 4) m w m1 m2
  obtain ⟨t1, x1, x2, x3, x4⟩ := turn_fn K m m1 m2
  obtain ⟨t2, y1, y2, y3, y4⟩ := turn_fn (-K) m m1 m2
  obtain ⟨t4, z1, z2, z3, z4⟩ := turn_fn (K + m / 4) m m1 m2
  rw [g1] at y3
  have hq := fun h => ex_quarter K m m1 m2 h
  rw [p1, p2] at e2
  rw [g1] at e3
  clear p1 p2 g1
  generalize exS (K + m / 4) m = I at *
  generalize exC (K + m / 4) m = H at *
  generalize exS (-K) m = G at *
  generalize exS K m = S at *
  generalize exC K m = C at *
  generalize tuC K m = X at *
  generalize tuS K m = Y at *
  generalize tuC (-K) m = Z at *
  generalize tuS (-K) m = W at *
  generalize tuC (K + m / 4) m = P at *
  generalize tuS (K + m / 4) m = Q at *
  have E1 := Lib.hid e1
  have E2 := Lib.hid e2
  have E3 := Lib.hid e3
  have E4 := Lib.hid e4
  have T1 := Lib.hid t1
  have T2 := Lib.hid t2
  have T4 := Lib.hid t4
  have o1 := ord_eq sc.f1 sc.f1 rfl
  have o2 := ord_eq sc.f2 sc.f2 rfl
  have o3 := ord_eq ss.f1 ss.f1 rfl
  have o4 := ord_eq ss.f2 ss.f2 rfl
  have o5 := ord_neg_ne ss.f1 sg.f1 g2.symm.h1
  have o6 := ord_neg_ne ss.f2 sg.f2 g2.symm.h2
  have o7 := ord_ne x1 y1 (by rw [x3, y3])
  have o8 := ord_neg_ne x2 y2 (by rw [x4, y4]; exact g2.symm.h1)
  have HQ : Hid (m % 4 = 0 → (I = C ∧ (FloatKind.f64.format.order H.1 (fneg S.1) == some Ordering.eq) = true ∧ (FloatKind.f64.format.order H.2 (fneg S.2) == some Ordering.eq) = true ∧ (FloatKind.f64.format.order P (fneg Y) == some Ordering.eq) = true ∧ (FloatKind.f64.format.order Q X == some Ordering.eq) = true)) := Lib.hid (fun h => by
    obtain ⟨q1, q2⟩ := hq h
    exact ⟨q2, ord_neg sh.f1 ss.f1 q1.h1, ord_neg sh.f2 ss.f2 q1.h2, ord_neg z1 x2 (by rw [z3, x4]; exact q1.h1), ord_eq z2 x1 (by rw [z4, x3, q2])⟩)
  clear e1 e2 e3 e4 t1 t2 t4 hq x1 x2 x3 x4 y1 y2 y3 y4 z1 z2 z3 z4 sc ss sg sh si g2
  obtain ⟨C1, C2⟩ := C
  obtain ⟨S1, S2⟩ := S
  obtain ⟨G1, G2⟩ := G
  obtain ⟨H1, H2⟩ := H
  obtain ⟨I1, I2⟩ := I
  go_enter Try.func9, Try.ntmps9
  go_wp2_with fail
  refine (PA.out _).mono ?_
  rintro z w' ⟨rfl, rfl⟩
  clear PA
  go_wp2_with (first | simp only [hK] | fail)
  refine (E1.out _).mono ?_
  rintro z w1 ⟨rfl, hb1⟩
  have B1 := Lib.hid hb1
  clear hb1
  go_upto_region 4 with fail
  obtain ⟨V1, hW⟩ : ∃ W, W = ((w1.alloc (.cells #[.float .f64 C1, .float .f64 C2] 25)).alloc (.cells #[.float .f64 S1, .float .f64 S2] 25)) := ⟨_, rfl⟩
  have PC : Hid (Two _ w1.heap.size (.float .f64 C1) (.float .f64 C2)) := Lib.hid ((Two.new w1 (.float .f64 C1) (.float .f64 C2) 25).alloc (.cells #[.float .f64 S1, .float .f64 S2] 25))
  have PS : Hid (Two _ (w1.heap.size + 1) (.float .f64 S1) (.float .f64 S2)) := Lib.hid (Two.new' (w := w1.alloc (.cells #[.float .f64 C1, .float .f64 C2] 25)) (b := w1.heap.size + 1) (by simp) (.float .f64 S1) (.float .f64 S2) 25)
  have B2 := Lib.hid ((B1.out.alloc B1.out.size (.cells #[.float .f64 C1, .float .f64 C2] 25)).alloc (B1.out.alloc B1.out.size (.cells #[.float .f64 C1, .float .f64 C2] 25)).size (.cells #[.float .f64 S1, .float .f64 S2] 25))
  rw [← hW] at PC PS B2 ⊢
  clear hW B1 
  go_wp2_with (first | simp only [wr1] | fail)
  refine (E2.out _).mono ?_
  rintro z w2 ⟨rfl, hb2⟩
  have PCn := Lib.hid (PC.out.keep hb2)
  have PSn := Lib.hid (PS.out.keep hb2)
  have B3 := Lib.hid (B2.out.trans (hb2.mono B2.out.size))
  clear hb2 B2 PC PS
  have PC := PCn
  clear PCn
  have PS := PSn
  clear PSn
  go_upto_region 5 with fail
  obtain ⟨V2, hW⟩ : ∃ W, W = ((w2.alloc (.cells #[.float .f64 C1, .float .f64 C2] 25)).alloc (.cells #[.float .f64 S1, .float .f64 S2] 25)) := ⟨_, rfl⟩
  have PD : Hid (Two _ w2.heap.size (.float .f64 C1) (.float .f64 C2)) := Lib.hid ((Two.new w2 (.float .f64 C1) (.float .f64 C2) 25).alloc (.cells #[.float .f64 S1, .float .f64 S2] 25))
  have PE : Hid (Two _ (w2.heap.size + 1) (.float .f64 S1) (.float .f64 S2)) := Lib.hid (Two.new' (w := w2.alloc (.cells #[.float .f64 C1, .float .f64 C2] 25)) (b := w2.heap.size + 1) (by simp) (.float .f64 S1) (.float .f64 S2) 25)
  have PCn := Lib.hid ((PC.out.alloc (.cells #[.float .f64 C1, .float .f64 C2] 25)).alloc (.cells #[.float .f64 S1, .float .f64 S2] 25))
  have PSn := Lib.hid ((PS.out.alloc (.cells #[.float .f64 C1, .float .f64 C2] 25)).alloc (.cells #[.float .f64 S1, .float .f64 S2] 25))
  have B4 := Lib.hid ((B3.out.alloc B3.out.size (.cells #[.float .f64 C1, .float .f64 C2] 25)).alloc (B3.out.alloc B3.out.size (.cells #[.float .f64 C1, .float .f64 C2] 25)).size (.cells #[.float .f64 S1, .float .f64 S2] 25))
  rw [← hW] at PD PE PCn PSn B4 ⊢
  clear hW B3 PC PS
  have PC := PCn
  clear PCn
  have PS := PSn
  clear PSn
  go_wp2_with (first | simp only [wr2] | fail)
  refine (E3.out _).mono ?_
  rintro z w3 ⟨rfl, hb3⟩
  have PCn := Lib.hid (PC.out.keep hb3)
  have PSn := Lib.hid (PS.out.keep hb3)
  have PDn := Lib.hid (PD.out.keep hb3)
  have PEn := Lib.hid (PE.out.keep hb3)
  have B5 := Lib.hid (B4.out.trans (hb3.mono B4.out.size))
  clear hb3 B4 PC PS PD PE
  have PC := PCn
  clear PCn
  have PS := PSn
  clear PSn
  have PD := PDn
  clear PDn
  have PE := PEn
  clear PEn
  go_upto_region 6 with fail
  obtain ⟨V3, hW⟩ : ∃ W, W = ((w3.alloc (.cells #[.float .f64 C1, .float .f64 C2] 25)).alloc (.cells #[.float .f64 G1, .float .f64 G2] 25)) := ⟨_, rfl⟩
  have PF : Hid (Two _ w3.heap.size (.float .f64 C1) (.float .f64 C2)) := Lib.hid ((Two.new w3 (.float .f64 C1) (.float .f64 C2) 25).alloc (.cells #[.float .f64 G1, .float .f64 G2] 25))
  have PG : Hid (Two _ (w3.heap.size + 1) (.float .f64 G1) (.float .f64 G2)) := Lib.hid (Two.new' (w := w3.alloc (.cells #[.float .f64 C1, .float .f64 C2] 25)) (b := w3.heap.size + 1) (by simp) (.float .f64 G1) (.float .f64 G2) 25)
  have PCn := Lib.hid ((PC.out.alloc (.cells #[.float .f64 C1, .float .f64 C2] 25)).alloc (.cells #[.float .f64 G1, .float .f64 G2] 25))
  have PSn := Lib.hid ((PS.out.alloc (.cells #[.float .f64 C1, .float .f64 C2] 25)).alloc (.cells #[.float .f64 G1, .float .f64 G2] 25))
  have PDn := Lib.hid ((PD.out.alloc (.cells #[.float .f64 C1, .float .f64 C2] 25)).alloc (.cells #[.float .f64 G1, .float .f64 G2] 25))
  have PEn := Lib.hid ((PE.out.alloc (.cells #[.float .f64 C1, .float .f64 C2] 25)).alloc (.cells #[.float .f64 G1, .float .f64 G2] 25))
  have B6 := Lib.hid ((B5.out.alloc B5.out.size (.cells #[.float .f64 C1, .float .f64 C2] 25)).alloc (B5.out.alloc B5.out.size (.cells #[.float .f64 C1, .float .f64 C2] 25)).size (.cells #[.float .f64 G1, .float .f64 G2] 25))
  rw [← hW] at PF PG PCn PSn PDn PEn B6 ⊢
  clear hW B5 PC PS PD PE
  have PC := PCn
  clear PCn
  have PS := PSn
  clear PSn
  have PD := PDn
  clear PDn
  have PE := PEn
  clear PEn
  go_wp2_with fail
  refine (T1.out _).mono ?_
  rintro z w4 ⟨rfl, hb4⟩
  have PCn := Lib.hid (PC.out.keep hb4)
  have PSn := Lib.hid (PS.out.keep hb4)
  have PDn := Lib.hid (PD.out.keep hb4)
  have PEn := Lib.hid (PE.out.keep hb4)
  have PFn := Lib.hid (PF.out.keep hb4)
  have PGn := Lib.hid (PG.out.keep hb4)
  have B7 := Lib.hid (B6.out.trans (hb4.mono B6.out.size))
  clear hb4 B6 PC PS PD PE PF PG
  have PC := PCn
  clear PCn
  have PS := PSn
  clear PSn
  have PD := PDn
  clear PDn
  have PE := PEn
  clear PEn
  have PF := PFn
  clear PFn
  have PG := PGn
  clear PGn
  go_wp2_with (first | simp only [wr2] | fail)
  refine (T2.out _).mono ?_
  rintro z w5 ⟨rfl, hb5⟩
  have PCn := Lib.hid (PC.out.keep hb5)
  have PSn := Lib.hid (PS.out.keep hb5)
  have PDn := Lib.hid (PD.out.keep hb5)
  have PEn := Lib.hid (PE.out.keep hb5)
  have PFn := Lib.hid (PF.out.keep hb5)
  have PGn := Lib.hid (PG.out.keep hb5)
  have B8 := Lib.hid (B7.out.trans (hb5.mono B7.out.size))
  clear hb5 B7 PC PS PD PE PF PG
  have PC := PCn
  clear PCn
  have PS := PSn
  clear PSn
  have PD := PDn
  clear PDn
  have PE := PEn
  clear PEn
  have PF := PFn
  clear PFn
  have PG := PGn
  clear PGn
  go_wp2_with fail
  refine (wakes5_any _).mono ?_
  rintro z w6 ⟨rfl, hb6⟩
  have PCn := Lib.hid (PC.out.keep hb6)
  have PSn := Lib.hid (PS.out.keep hb6)
  have PDn := Lib.hid (PD.out.keep hb6)
  have PEn := Lib.hid (PE.out.keep hb6)
  have PFn := Lib.hid (PF.out.keep hb6)
  have PGn := Lib.hid (PG.out.keep hb6)
  have B9 := Lib.hid (B8.out.trans (hb6.mono B8.out.size))
  clear hb6 B8 PC PS PD PE PF PG
  have PC := PCn
  clear PCn
  have PS := PSn
  clear PSn
  have PD := PDn
  clear PDn
  have PE := PEn
  clear PEn
  have PF := PFn
  clear PFn
  have PG := PGn
  clear PGn
  obtain ⟨a0, b0, c0, d0⟩ := PC.out
  obtain ⟨a1, b1, c1, d1⟩ := PS.out
  obtain ⟨a2, b2, c2, d2⟩ := PD.out
  obtain ⟨a3, b3, c3, d3⟩ := PE.out
  obtain ⟨a4, b4, c4, d4⟩ := PF.out
  obtain ⟨a5, b5, c5, d5⟩ := PG.out
  by_cases h4 : m % 4 = 0
  · obtain ⟨hI, u1, u2, u3, u4⟩ := HQ.out h4
    simp only [Prod.mk.injEq] at hI
    obtain ⟨rfl, rfl⟩ := hI
    clear HQ
    go_wp2_with (first | simp only [o1, o2, o3, o4, o5, o6, o7, o8, wr3] | fail)
    refine (E4.out _).mono ?_
    rintro z w7 ⟨rfl, hb7⟩
    clear a0 b0 c0 d0
    clear a1 b1 c1 d1
    clear a2 b2 c2 d2
    clear a3 b3 c3 d3
    clear a4 b4 c4 d4
    clear a5 b5 c5 d5
    have PCn := Lib.hid (PC.out.keep hb7)
    have PSn := Lib.hid (PS.out.keep hb7)
    have PDn := Lib.hid (PD.out.keep hb7)
    have PEn := Lib.hid (PE.out.keep hb7)
    have PFn := Lib.hid (PF.out.keep hb7)
    have PGn := Lib.hid (PG.out.keep hb7)
    have B10 := Lib.hid (B9.out.trans (hb7.mono B9.out.size))
    clear hb7 B9 PC PS PD PE PF PG
    have PC := PCn
    clear PCn
    have PS := PSn
    clear PSn
    have PD := PDn
    clear PDn
    have PE := PEn
    clear PEn
    have PF := PFn
    clear PFn
    have PG := PGn
    clear PGn
    go_upto_region 13 with fail
    obtain ⟨V4, hW⟩ : ∃ W, W = ((w7.alloc (.cells #[.float .f64 H1, .float .f64 H2] 25)).alloc (.cells #[.float .f64 I1, .float .f64 I2] 25)) := ⟨_, rfl⟩
    have PH : Hid (Two _ w7.heap.size (.float .f64 H1) (.float .f64 H2)) := Lib.hid ((Two.new w7 (.float .f64 H1) (.float .f64 H2) 25).alloc (.cells #[.float .f64 I1, .float .f64 I2] 25))
    have PI : Hid (Two _ (w7.heap.size + 1) (.float .f64 I1) (.float .f64 I2)) := Lib.hid (Two.new' (w := w7.alloc (.cells #[.float .f64 H1, .float .f64 H2] 25)) (b := w7.heap.size + 1) (by simp) (.float .f64 I1) (.float .f64 I2) 25)
    have PCn := Lib.hid ((PC.out.alloc (.cells #[.float .f64 H1, .float .f64 H2] 25)).alloc (.cells #[.float .f64 I1, .float .f64 I2] 25))
    have PSn := Lib.hid ((PS.out.alloc (.cells #[.float .f64 H1, .float .f64 H2] 25)).alloc (.cells #[.float .f64 I1, .float .f64 I2] 25))
    have PDn := Lib.hid ((PD.out.alloc (.cells #[.float .f64 H1, .float .f64 H2] 25)).alloc (.cells #[.float .f64 I1, .float .f64 I2] 25))
    have PEn := Lib.hid ((PE.out.alloc (.cells #[.float .f64 H1, .float .f64 H2] 25)).alloc (.cells #[.float .f64 I1, .float .f64 I2] 25))
    have PFn := Lib.hid ((PF.out.alloc (.cells #[.float .f64 H1, .float .f64 H2] 25)).alloc (.cells #[.float .f64 I1, .float .f64 I2] 25))
    have PGn := Lib.hid ((PG.out.alloc (.cells #[.float .f64 H1, .float .f64 H2] 25)).alloc (.cells #[.float .f64 I1, .float .f64 I2] 25))
    have B11 := Lib.hid ((B10.out.alloc B10.out.size (.cells #[.float .f64 H1, .float .f64 H2] 25)).alloc (B10.out.alloc B10.out.size (.cells #[.float .f64 H1, .float .f64 H2] 25)).size (.cells #[.float .f64 I1, .float .f64 I2] 25))
    rw [← hW] at PH PI PCn PSn PDn PEn PFn PGn B11 ⊢
    clear hW B10 PC PS PD PE PF PG
    have PC := PCn
    clear PCn
    have PS := PSn
    clear PSn
    have PD := PDn
    clear PDn
    have PE := PEn
    clear PEn
    have PF := PFn
    clear PFn
    have PG := PGn
    clear PGn
    go_wp2_with (first | simp only [wr3] | fail)
    refine (T4.out _).mono ?_
    rintro z w8 ⟨rfl, hb8⟩
    have PCn := Lib.hid (PC.out.keep hb8)
    have PSn := Lib.hid (PS.out.keep hb8)
    have PDn := Lib.hid (PD.out.keep hb8)
    have PEn := Lib.hid (PE.out.keep hb8)
    have PFn := Lib.hid (PF.out.keep hb8)
    have PGn := Lib.hid (PG.out.keep hb8)
    have PHn := Lib.hid (PH.out.keep hb8)
    have PIn := Lib.hid (PI.out.keep hb8)
    have B12 := Lib.hid (B11.out.trans (hb8.mono B11.out.size))
    clear hb8 B11 PC PS PD PE PF PG PH PI
    have PC := PCn
    clear PCn
    have PS := PSn
    clear PSn
    have PD := PDn
    clear PDn
    have PE := PEn
    clear PEn
    have PF := PFn
    clear PFn
    have PG := PGn
    clear PGn
    have PH := PHn
    clear PHn
    have PI := PIn
    clear PIn
    obtain ⟨a0, b0, c0, d0⟩ := PC.out
    obtain ⟨a1, b1, c1, d1⟩ := PS.out
    obtain ⟨a2, b2, c2, d2⟩ := PD.out
    obtain ⟨a3, b3, c3, d3⟩ := PE.out
    obtain ⟨a4, b4, c4, d4⟩ := PF.out
    obtain ⟨a5, b5, c5, d5⟩ := PG.out
    obtain ⟨a6, b6, c6, d6⟩ := PH.out
    obtain ⟨a7, b7, c7, d7⟩ := PI.out
    go_wp2_with (first | simp only [o1, o2, u1, u2, u3, u4] | fail)
    go_ret
    exact ⟨rfl, B12.out⟩
  · clear HQ
    go_wp2_with (first | simp only [o1, o2, o3, o4, o5, o6, o7, o8] | fail)
    go_ret
    exact ⟨rfl, B9.out⟩

end Go.Proofs.Ytnpkblidlmkagaa
