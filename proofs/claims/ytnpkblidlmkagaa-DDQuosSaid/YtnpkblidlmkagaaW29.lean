/- The walk of DDQuos. -/
import Derived.Test.YtnpkblidlmkagaaW23
import Derived.Test.YtnpkblidlmkagaaW25
import Derived.Test.YtnpkblidlmkagaaW28
import Derived.Test.YtnpkblidlmkagaaFl8
import Derived.Deep.CutRange
import Derived.Deep.RegionHeld3
set_option linter.unusedSimpArgs false
set_option linter.unusedVariables false
namespace Go.Proofs.Ytnpkblidlmkagaa
open Go.RowKit Fl

/-- What is asked where the second part of the quotient isn't tiny. -/
structure QBig (X Y X' Y' S E : Nat) (TF : Nat → Int) : Prop where
  out : ∃ (S1 E1 X1 Y1 : Nat) (P1 P2 P3 P4 : Int), fmul 4607182418800017408 S = some S1 ∧ fmul 4607182418800017408 E = some E1 ∧ fmul 13830554455654793216 X = some X1 ∧ fmul 13830554455654793216 Y = some Y1 ∧
    Fnt X1 ∧ Fnt Y1 ∧ TimesAt S1 X' P1 ∧ TimesAt S1 Y' P2 ∧ TimesAt E1 X' P3 ∧ TimesAt E1 Y' P4 ∧
    (((P1 + P2 + P3 + P4) + (iv X1 + iv Y1)) * 2 ^ 126).natAbs < 2 ^ (30 * 110) ∧
    (∀ K : Int, (∀ m : Nat, (((P1 + P2 + P3 + P4) + (iv X1 + iv Y1)) * 2 ^ 126).natAbs < 2 ^ m → K ≤ m - 1200) → K ≤ -1200 ∨ K ≤ TF X - 95)

theorem fine_true (S E r : Nat) (h1 : Fnt S) (h2 : Fnt E) (hf : fadd S E = some r) (hv : (D.order r S == some .eq) = true) (w : World) :
    Calls Try.prog 28 #[num S E] w fun z w' => z = .returned (.bool true) ∧ Below w.heap.size w w' := fine_any S E r w h1 h2 hf hv

set_option maxRecDepth 100000 in
set_option maxHeartbeats 8000000 in
theorem quos_any (F G : Int → Int → Nat) (a b c d : Int) (X Y X' Y' : Nat) (TF : Nat → Int) (w : World) (ht : ∀ a b w, Calls Try.prog 33 #[pair2 a b] w fun z w' => z = .returned (num (F a b) (G a b)) ∧ Below w.heap.size w w')
    (hX : F a b = X) (hY : G a b = Y) (hX' : F c d = X') (hY' : G c d = Y')
    (t1 : ∀ w, Calls Try.prog 38 #[.float .f64 X] w fun z w' => z = .returned (.int .i64 (TF X)) ∧ w = w')
    (tl : -1200 ≤ TF X) (tu : TF X ≤ 200)
    (hcase : (FloatKind.f64.format.order X' 0 == some Ordering.eq) = true ∨ ((FloatKind.f64.format.order X' 0 == some Ordering.eq) = false ∧ ∃ (Q : Nat → Nat × Nat) (S E r : Nat), (fdiv X X' = some (Q 0).1 ∧ (Q 0).2 = 0 ∧ (∀ k, k < 2 → quoStep (X, Y) (X', Y') (Q k) = some (Q (k + 1))) ∧ (Q 2).1 = S ∧ (Q 2).2 = E) ∧
      Fnt S ∧ Fnt E ∧ fadd S E = some r ∧ (D.order r S == some .eq) = true ∧
      ((((FloatKind.f64.format.order (fabs E) 2715670575304409088 == some Ordering.lt) = true ∧ (FloatKind.f64.format.order E 0 != some Ordering.eq) = true) ∧ (FloatKind.f64.format.order X 0 != some Ordering.eq) = true) ∨
       (((FloatKind.f64.format.order (fabs E) 2715670575304409088 == some Ordering.lt) = false ∨ ((FloatKind.f64.format.order (fabs E) 2715670575304409088 == some Ordering.lt) = true ∧ (FloatKind.f64.format.order E 0 != some Ordering.eq) = false)) ∧ QBig X Y X' Y' S E TF)))) :
    Calls Try.prog 7 #[pair2 a b, pair2 c d] w fun z w' => z = .returned (.bool true) ∧ Below w.heap.size w w' := by
  have HT := Lib.hid ht
  have T1 := Lib.hid t1
  have HC := Lib.hid hcase
  clear ht t1 hcase
  go_enter Try.func7, Try.ntmps7
  go_upto_region 1 with fail
  obtain ⟨D, hD⟩ : ∃ D, D = ((w.alloc (.cells #[.int .i64 a, .int .i64 b] 38)).alloc (.cells #[.int .i64 c, .int .i64 d] 38)) := ⟨_, rfl⟩
  rw [← hD]
  have hd0 : Two D w.heap.size (.int .i64 a) (.int .i64 b) := by rw [hD]; exact (Two.new _ _ _ _).alloc _
  have hd1 : Two D (w.heap.size + 1) (.int .i64 c) (.int .i64 d) := by rw [hD]; have := Two.new (w.alloc (.cells #[.int .i64 a, .int .i64 b] 38)) (.int .i64 c) (.int .i64 d) 38; simpa using this
  have hbD : Below w.heap.size w D := by rw [hD]; exact ((Below.refl _ _).alloc (Nat.le_refl _) _).alloc (by simp) _
  clear hD
  obtain ⟨b0, hb0⟩ : ∃ b0, b0 = w.heap.size := ⟨_, rfl⟩
  obtain ⟨b1, hb1⟩ : ∃ b1, b1 = w.heap.size + 1 := ⟨_, rfl⟩
  rw [← hb1, ← hb0]
  rw [← hb0] at hd0
  rw [← hb1] at hd1
  clear hb0 hb1
  have HD0 := Lib.hid hd0
  have HD1 := Lib.hid hd1
  clear hd0 hd1
  go_cut [5, 6] from 9 to 12 (fun s5 s6 wx => ∃ p q, s5 = .pointer (some ⟨p, 0, none⟩) ∧ s6 = .pointer (some ⟨q, 0, none⟩) ∧ Two wx p (.float .f64 X) (.float .f64 Y) ∧ Two wx q (.float .f64 X') (.float .f64 Y') ∧ p ≠ q ∧ D.heap.size ≤ p ∧ D.heap.size ≤ q ∧ Below D.heap.size D wx)
  case first =>
    go_region_held3 (fun w' => w'.cell? ⟨b0, 0, none⟩ = some (.int .i64 a) ∧ w'.cell? ⟨b0, 1, none⟩ = some (.int .i64 b) ∧ w'.cell? ⟨b1, 0, none⟩ = some (.int .i64 c) ∧ w'.cell? ⟨b1, 1, none⟩ = some (.int .i64 d) ∧ Hid (Below D.heap.size D w'))
      (first
        | with_reducible exact skD1 HD0.out HD1.out (hid_drew _)
        | with_reducible exact skD1 HD0.out HD1.out (hid_refl _)
        | with_reducible exact skD1 HD0.out HD1.out (by assumption)
        | with_reducible exact skDa HD0.out HD1.out (by assumption)
        | with_reducible exact skDaa HD0.out HD1.out (by assumption)
        | with_reducible exact skDa HD0.out HD1.out (hid_refl _)
        | with_reducible exact skDaa HD0.out HD1.out (hid_drew _)
        | with_reducible exact skD1 HD0.out HD1.out (hid_set (by assumption) (by omega))
        | with_reducible exact skD1 HD0.out HD1.out (hid_alloc (hid_set (by assumption) (by omega)))
        | with_reducible exact skD1 HD0.out HD1.out (hid_set (hid_set (by assumption) (by omega)) (by omega))
        | with_reducible exact skD1 HD0.out HD1.out (hid_dr (hid_alloc (hid_refl _)))
        | with_reducible exact skD1 HD0.out HD1.out (hid_dr (hid_alloc (hid_alloc (hid_refl _))))
        | fail)
      (first
        | (go_at_call 33; refine (HT.out _ _ _).mono ?_; rintro z w' ⟨rfl, hbb⟩; have hbw := (by with_reducible exact sB hbb (by assumption) : Hid (Below D.heap.size D w')); have hs := hbb.size; have hbs := hbw.out.size;
           try (with_reducible (replace hbb := undrew hbb));
           try (with_reducible (have o1 := Two.over0 k1 hbb));
           try (with_reducible (have o1 := Two.over1 k1 hbb));
           try (with_reducible (have o2 := And.intro (Two.over0 k2.1 hbb) (Two.over0 k2.2 hbb)));
           try (with_reducible (have k2 := keepAA hbb));
           try (with_reducible (have k1 := keepA hbb));
           try (have p1 := k2.1; have p2 := k2.2);
           try (have p3 := o2.1; have p4 := o2.2);
           try (have oo := o1; have ol := oo.lt; obtain ⟨r0, r1, f0, f1⟩ := oo);
           try (have oo := k1; have ol := oo.lt; obtain ⟨r0, r1, f0, f1⟩ := oo);
           try (have oo := k2.1; have ol := oo.lt; obtain ⟨r0, r1, f0, f1⟩ := oo);
           try (have oo := k2.2; have ol := oo.lt; obtain ⟨r0, r1, f0, f1⟩ := oo);
           try (have oo := o2.1; have ol := oo.lt; obtain ⟨r0, r1, f0, f1⟩ := oo);
           try (have oo := o2.2; have ol := oo.lt; obtain ⟨r0, r1, f0, f1⟩ := oo)))
    all_goals (go_wp2_with fail; go_meet)
    all_goals refine ⟨_, _, rfl, rfl, ?_, ?_, ?_, ?_, ?_, ?_⟩
    all_goals first
      | omega
      | (simp; done)
      | (simp; omega)
      | with_reducible exact (Two.new _ _ _ _).alloc _
      | with_reducible exact Two.new' (by simp) _ _ _
      | with_reducible exact (Two.setBoth (by assumption) _ _).alloc _
      | with_reducible exact Two.setFirst (by assumption) (by omega)
      | with_reducible exact Two.setSecond (by assumption) (by omega)
      | with_reducible exact (hid_alloc (hid_alloc (by assumption))).out
      | with_reducible exact (hid_alloc (hid_set (by assumption) (by omega))).out
      | with_reducible exact (hid_set (hid_set (by assumption) (by omega)) (by omega)).out
      | fail
  case rest =>
    obtain ⟨p, q, rfl, rfl, hp, hq, hpq, hpD, hqD, hbw⟩ := hcut
    have HP := Lib.hid hp
    have HQ := Lib.hid hq
    have BW : Hid (Below w.heap.size w wc) := Lib.hid (hbD.trans (hbw.mono hbD.size))
    obtain ⟨r0, r1, g0, g1⟩ := hp
    obtain ⟨r2, r3, g2, g3⟩ := hq
    clear hbw hbD HD0 HD1 HT hX hY hX' hY'
    rcases HC.out with hz | ⟨hz, Q, S, E, r, ⟨q0, q00, qk, qS, qE⟩, fS, fE, hr, ho, hcase⟩
    · clear HC
      clear r0 r1 g0 g1 r2 r3 g2 g3 HP
      go_wp2_with fail
      refine (wakes4_any _).mono ?_
      rintro z w1 ⟨rfl, hb1⟩
      have HQ1 := Lib.hid (HQ.out.keep hb1)
      have BW1 : Hid (Below w.heap.size w w1) := Lib.hid (BW.out.trans (hb1.mono BW.out.size))
      clear hb1 HQ BW
      obtain ⟨r2, r3, g2, g3⟩ := HQ1.out
      go_wp2_with (first | simp only [hz] | fail)
      refine (wakes4_any _).mono ?_
      rintro z w2 ⟨rfl, hb2⟩
      have BW2 : Hid (Below w.heap.size w w2) := Lib.hid (BW1.out.trans (hb2.mono BW1.out.size))
      clear hb2 r2 r3 g2 g3
      go_wp2_with fail
      go_ret
      exact ⟨rfl, BW2.out⟩
    · clear HC
      have hquo : ∀ w, Calls Try.prog 40 #[num X Y, num X' Y'] w fun z w' => z = .returned (num S E) ∧ Below w.heap.size w w' := fun w => by
        have := quo_any X Y X' Y' Q w q0 q00 qk
        rwa [qS, qE] at this
      have hfine : ∀ w, Calls Try.prog 28 #[num S E] w fun z w' => z = .returned (.bool true) ∧ Below w.heap.size w w' := fine_true S E r fS fE hr ho
      have habs : ∀ w, Calls Try.prog 41 #[.float .f64 E] w fun z w' => z = .returned (.float .f64 (fabs E)) ∧ w = w' := fun w => abs_any E w fE.1
      have HQUO := Lib.hid hquo
      have HFINE := Lib.hid hfine
      have HABS := Lib.hid habs
      clear hquo hfine habs q0 q00 qk qS qE fS fE hr ho
      have HC := Lib.hid hcase
      clear hcase
      clear r0 r1 g0 g1 r2 r3 g2 g3
      go_wp2_with fail
      refine (wakes4_any _).mono ?_
      rintro z w1 ⟨rfl, hb1⟩
      have HP1 := Lib.hid (HP.out.keep hb1)
      have HQ1 := Lib.hid (HQ.out.keep hb1)
      have BW1 : Hid (Below w.heap.size w w1) := Lib.hid (BW.out.trans (hb1.mono BW.out.size))
      clear hb1 HP HQ BW
      obtain ⟨r0, r1, g0, g1⟩ := HP1.out
      obtain ⟨r2, r3, g2, g3⟩ := HQ1.out
      go_wp2_with (first | simp only [hz] | fail)
      refine (HQUO.out _).mono ?_
      rintro z w2 ⟨rfl, hb2⟩
      have HP2 := Lib.hid (HP1.out.keep hb2)
      have HQ2 := Lib.hid (HQ1.out.keep hb2)
      have BW2 : Hid (Below w.heap.size w w2) := Lib.hid (BW1.out.trans (hb2.mono BW1.out.size))
      clear hb2 HP1 HQ1 BW1 r0 r1 g0 g1 r2 r3 g2 g3 hz
      have TN : Two (w2.alloc (.cells #[.float .f64 S, .float .f64 E] 25)) w2.heap.size (.float .f64 S) (.float .f64 E) := Two.new _ _ _ _
      have HN := Lib.hid TN
      have HP3 := Lib.hid (HP2.out.alloc (.cells #[.float .f64 S, .float .f64 E] 25))
      have HQ3 := Lib.hid (HQ2.out.alloc (.cells #[.float .f64 S, .float .f64 E] 25))
      have BW3 : Hid (Below w.heap.size w (w2.alloc (.cells #[.float .f64 S, .float .f64 E] 25))) := Lib.hid (BW2.out.alloc BW2.out.size _)
      have pl := HP2.out.lt
      have ql := HQ2.out.lt
      clear TN HP2 HQ2 BW2
      go_upto_region 5 with fail
      obtain ⟨n, hn⟩ : ∃ n, n = w2.heap.size := ⟨_, rfl⟩
      obtain ⟨W3, hW3⟩ : ∃ W, W = w2.alloc (.cells #[.float .f64 S, .float .f64 E] 25) := ⟨_, rfl⟩
      rw [← hW3] at HN HP3 HQ3 BW3 ⊢
      rw [← hn] at HN pl ql ⊢
      clear hn hW3
      obtain ⟨r0, r1, g0, g1⟩ := HN.out
      go_wp2_with fail
      refine (HFINE.out _).mono ?_
      rintro z w3 ⟨rfl, hb3⟩
      have HN3 := Lib.hid (HN.out.keep hb3)
      have HP4 := Lib.hid (HP3.out.keep hb3)
      have HQ4 := Lib.hid (HQ3.out.keep hb3)
      have BW4 : Hid (Below w.heap.size w w3) := Lib.hid (BW3.out.trans (hb3.mono BW3.out.size))
      clear hb3 HN HP3 HQ3 BW3 r0 r1 g0 g1
      obtain ⟨r0, r1, g0, g1⟩ := HN3.out
      go_wp2_with fail
      refine (HABS.out _).mono ?_
      rintro z w4 ⟨rfl, rfl⟩
      rcases HC.out with ⟨⟨c1, c2⟩, c3⟩ | ⟨hc, hbig⟩
      · obtain ⟨r2, r3, g2, g3⟩ := HP4.out
        go_wp2_with (first | simp only [c1, c2, c3] | fail)
        refine (HFINE.out _).mono ?_
        rintro z w5 ⟨rfl, hb5⟩
        have BW5 : Hid (Below w.heap.size w w5) := Lib.hid (BW4.out.trans (hb5.mono BW4.out.size))
        clear hb5 r0 r1 g0 g1 r2 r3 g2 g3
        go_wp2_with fail
        go_ret
        exact ⟨rfl, BW5.out⟩
      · obtain ⟨S1, E1, X1, Y1, P1, P2, P3, P4, m1, m2, m3, m4, f1, f2, q1, q2, q3, q4, hlt, hK⟩ := hbig.out
        have M1 := Lib.hid m1
        have M2 := Lib.hid m2
        have M3 := Lib.hid m3
        have M4 := Lib.hid m4
        have F1 := Lib.hid f1
        have F2 := Lib.hid f2
        have Q1 := Lib.hid q1
        have Q2 := Lib.hid q2
        have Q3 := Lib.hid q3
        have Q4 := Lib.hid q4
        have HLT := Lib.hid hlt
        have HK := Lib.hid hK
        clear m1 m2 m3 m4 f1 f2 q1 q2 q3 q4 hlt hK hbig HFINE HABS HQUO HC
        have L0 := Lib.hid (limbs_new w3)
        have HN5 := Lib.hid (HN3.out.alloc (.cells Try.zeroCells33 33))
        have HP5 := Lib.hid (HP4.out.alloc (.cells Try.zeroCells33 33))
        have HQ5 := Lib.hid (HQ4.out.alloc (.cells Try.zeroCells33 33))
        have BW5 : Hid (Below w.heap.size w (w3.alloc (.cells Try.zeroCells33 33))) := Lib.hid (BW4.out.alloc BW4.out.size _)
        have n3 := HN3.out.lt
        have p3 := HP4.out.lt
        have q3 := HQ4.out.lt
        have z3 := BW4.out.size
        obtain ⟨w5, hw5⟩ : ∃ w5, w5 = w3.alloc (.cells Try.zeroCells33 33) := ⟨_, rfl⟩
        obtain ⟨cb, hcb⟩ : ∃ cb, cb = w3.heap.size := ⟨_, rfl⟩
        rw [← hw5] at L0 HN5 HP5 HQ5 BW5
        rw [← hcb] at L0 n3 p3 q3 z3
        have HW5 := Lib.hid hw5
        have HCB := Lib.hid hcb
        clear hw5 hcb
        obtain ⟨s0, s1, t0, t1⟩ := HN5.out
        obtain ⟨s2, s3, t2, t3⟩ := HQ5.out
        rcases hc with c1 | ⟨c1, c2⟩
        all_goals
          first
          | go_wp2_with (first | simp only [c1] | simp only [← HW5.out, ← HCB.out] | fail)
          | go_wp2_with (first | simp only [c1, c2] | simp only [← HW5.out, ← HCB.out] | fail)
          refine (ltimes_any _ _ _ _ _ _ _ _ _ _ _ _ _ _ M1.out M2.out Q1.out Q2.out Q3.out Q4.out L0.out 0 (by omega) (fun _ => by simp)).mono ?_
          rintro z w6 ⟨rfl, l1, k1, k2, k3, k4⟩
          have L1 := Lib.hid k1
          have N1 := Lib.hid k2
          have V1 := Lib.hid k3
          have HP6 := Lib.hid (HP5.out.only k4 (by omega))
          have BW6 : Hid (Below w.heap.size w w6) := Lib.hid (BW5.out.trans ((k4.below (by have := L0.out.lt; omega)).mono z3))
          clear k1 k2 k3 k4 r0 r1 g0 g1 s0 s1 t0 t1 s2 s3 t2 t3 HN5 HP5 HQ5 BW5 HN3 HP4 HQ4 BW4 L0 HW5 HCB
          obtain ⟨r0, r1, g0, g1⟩ := HP6.out
          go_wp2_with fail
          refine (lput_any _ _ _ _ _ _ _ _ M3.out M4.out F1.out F2.out L1.out _ (by omega) N1.out).mono ?_
          rintro z w7 ⟨rfl, l3, k1, k2, k3, k4⟩
          have L3 := Lib.hid k1
          have N3 := Lib.hid k2
          have V3 := Lib.hid k3
          have HP7 := Lib.hid (HP6.out.only k4 (by omega))
          have BW7 : Hid (Below w.heap.size w w7) := Lib.hid (BW6.out.trans ((k4.below (by have := L1.out.lt; omega)).mono z3))
          clear k1 k2 k3 k4 r0 r1 g0 g1 HP6 BW6 L1
          have VV : Hid (val l3 110 = ((P1 + P2 + P3 + P4) + (iv X1 + iv Y1)) * 2 ^ 126) := Lib.hid (by
            rw [V3.out, V1.out, val_zero, Int.zero_add, ← Int.add_mul])
          rw [← VV.out] at HLT HK
          have HB : Hid (Bnd l3 (0 + 16 * 2 ^ 32 + 2 * 2 ^ 32)) := N3
          clear V1 V3 N1 N3 VV F1 F2 Q1 Q2 Q3 Q4 M1 M2 M3 M4
          obtain ⟨r0, r1, g0, g1⟩ := HP7.out
          clear r1 g0 g1 HP7
          have hwr : IntKind.i64.wrap (TF X - 95) = TF X - 95 := by rw [IntKind.wrap_i64]; omega
          go_upto_region 10 with fail
          go_region_held3 (fun w' => w'.cell? ⟨p, 0, none⟩ = some (.float .f64 X) ∧ w'.cell? ⟨p, 0, none⟩ = some (.float .f64 X) ∧ Hid (Limbs w' cb l3) ∧ Hid (Below w.heap.size w w'))
            (first | exact ⟨r0, r0, L3, BW7⟩ | exact sk9d ⟨r0, r0, L3, BW7⟩ | assumption | (refine sk9 hbb ?_; assumption) | (trace_state; fail))
            (first
              | (go_at_call 37; refine (size_any _ _ _ (sk9L (by assumption)) _ (by omega) HB.out HLT.out).mono ?_; rintro z w' ⟨K, rfl, hbb, hKK⟩; have HKK := Lib.hid (HK.out K hKK); clear hKK)
              | (go_at_call 38; refine (T1.out _).mono ?_; rintro z w' ⟨rfl, rfl⟩))
          all_goals
            obtain ⟨_, _, _, B9⟩ : _ ∧ _ ∧ _ ∧ Hid (Below w.heap.size w _) := by assumption
            have e : decide (K ≤ if -1200 < TF X - 95 then TF X - 95 else -1200) = true := by
              have h := HKK.out
              clear hwr
              apply decide_eq_true
              split <;> omega
            rw [e]
            go_wp2
            all_goals (go_ret; exact ⟨rfl, B9.out⟩)
end Go.Proofs.Ytnpkblidlmkagaa
