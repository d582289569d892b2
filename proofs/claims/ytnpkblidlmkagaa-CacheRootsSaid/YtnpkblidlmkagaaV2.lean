/- The contracts of trig's series. -/
import Derived.Test.YtnpkblidlmkagaaW28
import Derived.Test.YtnpkblidlmkagaaW10
set_option linter.unusedSimpArgs false
set_option linter.unusedVariables false
namespace Go.Proofs.Ytnpkblidlmkagaa
open Go.RowKit Fl

/-- The float of a whole number. -/
abbrev wholeF (m : Int) : Nat := floatOfInt .f64 m
def negP (a : Nat × Nat) : Nat × Nat := (fneg a.1, fneg a.2)
abbrev oneW : Nat := 4607182418800017408

/-- One round of the series: the next term, the next sum. -/
def serStep (sq : Nat × Nat) (i : Int) (t : (Nat × Nat) × (Nat × Nat)) : Option ((Nat × Nat) × (Nat × Nat)) :=
  (mulF t.1 sq).bind fun u => (quoF u (wholeF (i * (i + 1)), 0)).bind fun v => (addF t.2 v).bind fun s => some (v, s)

theorem serStep_parts {a b c d g h g' h' m i : Nat} {sq : Nat × Nat} {j : Int} (hq : serStep sq j ((a, b), (c, d)) = some ((g, h), (g', h'))) :
    ∃ u1 u2, mulF (a, b) sq = some (u1, u2) ∧ quoF (u1, u2) (wholeF (j * (j + 1)), 0) = some (g, h) ∧ addF (c, d) (g, h) = some (g', h') := by
  simp only [serStep, Option.bind_eq_some_iff, Option.some.injEq, Prod.mk.injEq] at hq
  obtain ⟨⟨u1, u2⟩, h1, ⟨v1, v2⟩, h2, ⟨s1, s2⟩, h3, ⟨rfl, rfl⟩, rfl, rfl⟩ := hq
  exact ⟨u1, u2, h1, h2, h3⟩

/-- Quo, by its function. -/
theorem quoF_any (a b c d e f : Nat) (w : World) (h : quoF (a, b) (c, d) = some (e, f)) :
    Calls Try.prog 40 #[num a b, num c d] w fun z w' => z = .returned (num e f) ∧ Below w.heap.size w w' := by
  simp only [quoF, Option.bind_eq_some_iff] at h
  obtain ⟨z, h1, ⟨q1, q2⟩, h2, h3⟩ := h
  have := quo_any a b c d (fun k => if k = 0 then (z, 0) else if k = 1 then (q1, q2) else (e, f)) w h1 rfl (fun k hk => by
    rcases (show k = 0 ∨ k = 1 by omega) with rfl | rfl
    · exact h2
    · exact h3)
  exact this

set_option maxRecDepth 100000 in
set_option maxHeartbeats 1000000 in
theorem series_any (x y p q : Nat) (f : Int) (R : Nat) (T : Nat → (Nat × Nat) × (Nat × Nat)) (w : World) (hR : (f = 0 ∧ R = 15) ∨ (f = 1 ∧ R = 14))
    (h1 : mulF (x, y) (x, y) = some (p, q)) (h0 : T 0 = ((oneW, 0), (oneW, 0))) (hT : ∀ k, k < R → serStep (fneg p, fneg q) (f + 1 + 2 * k) (T k) = some (T (k + 1))) :
    Calls Try.prog 99 #[num x y, .int .i64 f] w fun z w' => z = .returned (num (T R).2.1 (T R).2.2) ∧ Below w.heap.size w w' := by
  have H1 := Lib.hid h1
  have H0 := Lib.hid h0
  have HT := Lib.hid hT
  have HR := Lib.hid hR
  have hf : 0 ≤ f ∧ f ≤ 1 := by omega
  have hRl : R ≤ 15 := by omega
  clear h1 h0 hT hR
  go_enter Try.func99, Try.ntmps99
  go_wp2_with fail
  refine (mul_any _ _ _ _ _ _ _ H1.out).mono ?_
  rintro z w1 ⟨rfl, hb1⟩
  have T0 : Two ((w.alloc (.cells #[.float .f64 x, .float .f64 y] 25)).alloc (.cells #[.float .f64 0, .float .f64 0] 25)) (w.heap.size + 1) (.float .f64 0) (.float .f64 0) := Two.new' (by simp) _ _ _
  have T1 := Lib.hid (T0.keep hb1)
  have B1 : Hid (Below w.heap.size w w1) := Lib.hid ((((Below.refl _ w).alloc (Nat.le_refl _) _).alloc (by simp) _).trans (hb1.mono (by simp; omega)))
  clear hb1 T0
  go_wp2_with fail
  refine (neg_any _ _ _).mono ?_
  rintro z w2 ⟨rfl, hb2⟩
  have T2 := Lib.hid (T1.out.keep hb2)
  have B2 : Hid (Below w.heap.size w w2) := Lib.hid (B1.out.trans (hb2.mono B1.out.size))
  clear hb2 T1 B1
  have z1 := T2.out.lt
  have z2 := B2.out.size
  have T3 := Lib.hid (((T2.out.alloc (.cells #[.float .f64 (fneg p), .float .f64 (fneg q)] 25)).alloc (.cells #[.float .f64 oneW, .float .f64 0] 25)).alloc (.cells #[.float .f64 oneW, .float .f64 0] 25))
  have T4 : Hid (Two _ w2.heap.size (.float .f64 (fneg p)) (.float .f64 (fneg q))) := Lib.hid (((Two.new' (w := w2) (b := w2.heap.size) rfl (.float .f64 (fneg p)) (.float .f64 (fneg q)) 25).alloc (.cells #[.float .f64 oneW, .float .f64 0] 25)).alloc (.cells #[.float .f64 oneW, .float .f64 0] 25))
  have T5 : Hid (Two _ (w2.heap.size + 1) (.float .f64 oneW) (.float .f64 0)) := Lib.hid ((Two.new' (w := w2.alloc (.cells #[.float .f64 (fneg p), .float .f64 (fneg q)] 25)) (b := w2.heap.size + 1) (by simp) (.float .f64 oneW) (.float .f64 0) 25).alloc (.cells #[.float .f64 oneW, .float .f64 0] 25))
  have T6 : Hid (Two _ (w2.heap.size + 1 + 1) (.float .f64 oneW) (.float .f64 0)) := Lib.hid (Two.new' (w := (w2.alloc (.cells #[.float .f64 (fneg p), .float .f64 (fneg q)] 25)).alloc (.cells #[.float .f64 oneW, .float .f64 0] 25)) (b := w2.heap.size + 1 + 1) (by simp) (.float .f64 oneW) (.float .f64 0) 25)
  have B3 : Hid (Below w.heap.size w (((w2.alloc (.cells #[.float .f64 (fneg p), .float .f64 (fneg q)] 25)).alloc (.cells #[.float .f64 oneW, .float .f64 0] 25)).alloc (.cells #[.float .f64 oneW, .float .f64 0] 25))) :=
    Lib.hid (((B2.out.alloc B2.out.size _).alloc (by simp; omega) _).alloc (by simp; omega) _)
  clear T2 B2
  have wf : wrap64 (f + 1) = f + 1 := by unfold wrap64; omega
  go_wp2_with (first | simp only [wf] | fail)
  go_loopw [8] (fun i wr => ∃ k : Nat, k ≤ R ∧ i = .int .i64 (f + 1 + 2 * k) ∧ Hid (Two wr (w.heap.size + 1) (.float .f64 0) (.float .f64 0)) ∧ Hid (Two wr w2.heap.size (.float .f64 (fneg p)) (.float .f64 (fneg q))) ∧ Hid (Two wr (w2.heap.size + 1) (.float .f64 (T k).1.1) (.float .f64 (T k).1.2)) ∧ Hid (Two wr (w2.heap.size + 1 + 1) (.float .f64 (T k).2.1) (.float .f64 (T k).2.2)) ∧ Hid (Below w.heap.size w wr)) (fun i _ => (60 - intOf i).toNat)
  case atStart =>
    refine ⟨0, by omega, by simp, T3, T4, by rw [H0.out]; exact T5, by rw [H0.out]; exact T6, B3⟩
  case round =>
    obtain ⟨k, hk, rfl, t0, t1, t2, t3, hb⟩ := hrel
    have hk30 : (k < R ↔ f + 1 + 2 * (k : Int) < 30) := by have := HR.out; omega
    have hz := hb.out.size
    by_cases hlt : k < R
    · have hki := hk30.1 hlt
      obtain ⟨⟨⟨g, h⟩, g', h'⟩, hgh⟩ : ∃ gh, gh = T (k + 1) := ⟨_, rfl⟩
      obtain ⟨⟨⟨a, b⟩, c, d⟩, hef⟩ : ∃ ef, ef = T k := ⟨_, rfl⟩
      obtain ⟨u1, u2, hm, hq, hs⟩ := serStep_parts (m := 0) (i := 0) (a := a) (b := b) (c := c) (d := d) (g := g) (h := h) (g' := g') (h' := h') (sq := (fneg p, fneg q)) (j := f + 1 + 2 * k) (by rw [hgh, hef]; exact HT.out k hlt)
      have HM := Lib.hid hm
      have HQ := Lib.hid hq
      have HS := Lib.hid hs
      have HGH := Lib.hid hgh
      rw [← hef] at t2 t3
      have jj : ∀ j : Int, 0 ≤ j → j < 30 → wrap64 (j + 1) = j + 1 ∧ wrap64 (j * (j + 1)) = j * (j + 1) ∧ wrap64 (j + 2) = j + 2 := fun j j0 j1 => by
        have hmul : 0 ≤ j * (j + 1) ∧ j * (j + 1) ≤ 30 * 30 := ⟨Int.mul_nonneg (by omega) (by omega), Int.mul_le_mul (by omega) (by omega) (by omega) (by omega)⟩
        refine ⟨by unfold wrap64; omega, ?_, by unfold wrap64; omega⟩
        generalize j * (j + 1) = m at *
        unfold wrap64; omega
      obtain ⟨w1', w2', w3'⟩ := jj (f + 1 + 2 * (k : Int)) (by omega) hki
      clear hm hq hs hgh hef jj
      obtain ⟨r0, r1, f0, f1⟩ := t1.out
      obtain ⟨r2, r3, f2, f3⟩ := t2.out
      have l2 := t2.out.lt
      have l3 := t3.out.lt
      go_wp2_with fail
      refine (mul_any _ _ _ _ _ _ _ HM.out).mono ?_
      rintro z w5 ⟨rfl, hb5⟩
      have N0 := Lib.hid (t0.out.keep hb5)
      have N1 := Lib.hid (t1.out.keep hb5)
      have N2 := Lib.hid (t2.out.keep hb5)
      have N3 := Lib.hid (t3.out.keep hb5)
      have B5 : Hid (Below w.heap.size w w5) := Lib.hid (hb.out.trans (hb5.mono hz))
      clear hb5 t0 t1 t2 t3 hb r0 r1 f0 f1 r2 r3 f2 f3
      go_wp2_with (first | simp only [w1', w2'] | fail)
      refine (quoF_any _ _ _ _ _ _ _ HQ.out).mono ?_
      rintro z w6 ⟨rfl, hb6⟩
      have z5 := B5.out.size
      have M0 := N0.out.keep hb6
      have M1 := N1.out.keep hb6
      have M2 := N2.out.keep hb6
      have M3 := N3.out.keep hb6
      have B6 : Below w.heap.size w w6 := B5.out.trans (hb6.mono z5)
      have L0 := Lib.hid ((M0.setOther ⟨w2.heap.size + 1, 0, none⟩ (by show w2.heap.size + 1 ≠ _; omega) (.float .f64 g)).setOther ⟨w2.heap.size + 1, 1, none⟩ (by show w2.heap.size + 1 ≠ _; omega) (.float .f64 h))
      have L1 := Lib.hid ((M1.setOther ⟨w2.heap.size + 1, 0, none⟩ (by show w2.heap.size + 1 ≠ _; omega) (.float .f64 g)).setOther ⟨w2.heap.size + 1, 1, none⟩ (by show w2.heap.size + 1 ≠ _; omega) (.float .f64 h))
      have L2 := Lib.hid (M2.setBoth (.float .f64 g) (.float .f64 h))
      have L3 := Lib.hid ((M3.setOther ⟨w2.heap.size + 1, 0, none⟩ (by show w2.heap.size + 1 ≠ _; omega) (.float .f64 g)).setOther ⟨w2.heap.size + 1, 1, none⟩ (by show w2.heap.size + 1 ≠ _; omega) (.float .f64 h))
      have B7 : Hid (Below w.heap.size w ((w6.setCell ⟨w2.heap.size + 1, 0, none⟩ (.float .f64 g)).setCell ⟨w2.heap.size + 1, 1, none⟩ (.float .f64 h))) := Lib.hid ((B6.setCell (p := ⟨_, _, _⟩) (by show w.heap.size ≤ w2.heap.size + 1; omega) _).setCell (p := ⟨_, _, _⟩) (by show w.heap.size ≤ w2.heap.size + 1; omega) _)
      obtain ⟨r2, r3, f2, f3⟩ := M2
      have l6 := World.block_lt_of_cell? _ _ r2
      clear hb6 N0 N1 N2 N3 M0 M1 M3 B5 B6
      go_upto_region 7 with fail
      obtain ⟨W, hW⟩ : ∃ W, W = ((w6.setCell ⟨w2.heap.size + 1, 0, none⟩ (.float .f64 g)).setCell ⟨w2.heap.size + 1, 1, none⟩ (.float .f64 h)) := ⟨_, rfl⟩
      rw [← hW] at L0 L1 L2 L3 B7 ⊢
      clear hW r2 r3 f2 f3 l6
      obtain ⟨r0, r1, f0, f1⟩ := L2.out
      obtain ⟨r2, r3, f2, f3⟩ := L3.out
      go_wp2_with fail
      refine (add_any _ _ _ _ _ _ _ HS.out).mono ?_
      rintro z w8 ⟨rfl, hb8⟩
      have M0 := L0.out.keep hb8
      have M1 := L1.out.keep hb8
      have M2 := L2.out.keep hb8
      have M3 := L3.out.keep hb8
      have z7 := B7.out.size
      have B8 : Below w.heap.size w w8 := B7.out.trans (hb8.mono z7)
      have K0 := Lib.hid ((M0.setOther ⟨w2.heap.size + 1 + 1, 0, none⟩ (by show w2.heap.size + 1 + 1 ≠ _; omega) (.float .f64 g')).setOther ⟨w2.heap.size + 1 + 1, 1, none⟩ (by show w2.heap.size + 1 + 1 ≠ _; omega) (.float .f64 h'))
      have K1 := Lib.hid ((M1.setOther ⟨w2.heap.size + 1 + 1, 0, none⟩ (by show w2.heap.size + 1 + 1 ≠ _; omega) (.float .f64 g')).setOther ⟨w2.heap.size + 1 + 1, 1, none⟩ (by show w2.heap.size + 1 + 1 ≠ _; omega) (.float .f64 h'))
      have K2 := Lib.hid ((M2.setOther ⟨w2.heap.size + 1 + 1, 0, none⟩ (by show w2.heap.size + 1 + 1 ≠ _; omega) (.float .f64 g')).setOther ⟨w2.heap.size + 1 + 1, 1, none⟩ (by show w2.heap.size + 1 + 1 ≠ _; omega) (.float .f64 h'))
      have K3 := Lib.hid (M3.setBoth (.float .f64 g') (.float .f64 h'))
      have B9 : Hid (Below w.heap.size w ((w8.setCell ⟨w2.heap.size + 1 + 1, 0, none⟩ (.float .f64 g')).setCell ⟨w2.heap.size + 1 + 1, 1, none⟩ (.float .f64 h'))) := Lib.hid ((B8.setCell (p := ⟨_, _, _⟩) (by show w.heap.size ≤ w2.heap.size + 1 + 1; omega) _).setCell (p := ⟨_, _, _⟩) (by show w.heap.size ≤ w2.heap.size + 1 + 1; omega) _)
      have eT : ((g, h), g', h') = T (k + 1) := HGH.out
      clear hb8 L0 L1 L2 L3 M0 M1 M2 B7 B8 r0 r1 f0 f1 r2 r3 f2 f3
      obtain ⟨r2, r3, f2, f3⟩ := M3
      have l6 := World.block_lt_of_cell? _ _ r2
      go_wp2_with (first | simp only [w3'] | fail)
      refine ⟨⟨k + 1, by omega, by congr 1; omega, K0, K1, ?_, ?_, B9⟩, by simp [intOf]; omega⟩
      · rw [← eT]; exact K2
      · rw [← eT]; exact K3
    · have hkR : k = R := by omega
      have hki : ¬ f + 1 + 2 * (k : Int) < 30 := fun h => hlt (hk30.2 h)
      obtain ⟨r0, r1, f0, f1⟩ := t0.out
      obtain ⟨r2, r3, f2, f3⟩ := t3.out
      have l0 := t0.out.lt
      clear hk30
      go_wp2_with fail
      rw [hkR] at r2 r3
      refine bodyPost_ret (v := num (T R).2.1 (T R).2.2) (by simp [results, Try.results99, go_sem, r0, r1, hkR]) rfl ⟨rfl, ?_⟩
      exact (hb.out.setCell (p := ⟨_, _, _⟩) (by show w.heap.size ≤ w.heap.size + 1; omega) _).setCell (p := ⟨_, _, _⟩) (by show w.heap.size ≤ w.heap.size + 1; omega) _

end Go.Proofs.Ytnpkblidlmkagaa
