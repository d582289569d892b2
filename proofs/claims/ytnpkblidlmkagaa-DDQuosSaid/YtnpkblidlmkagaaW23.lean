/- The walk of DDAdds. -/
import Derived.Test.YtnpkblidlmkagaaW20
import Derived.Test.YtnpkblidlmkagaaW22
import Derived.Test.YtnpkblidlmkagaaW8
import Derived.Test.YtnpkblidlmkagaaFl7
import Derived.Deep.CutRange
import Derived.Deep.RegionHeld3
set_option linter.unusedSimpArgs false
set_option linter.unusedVariables false
namespace Go.Proofs.Ytnpkblidlmkagaa
open Go.RowKit Fl

theorem sk9 {p q cb : Nat} {u v : Value} {f : Nat → Int} {w0 w w1 : World} (hb : Below w.heap.size w w1) (h : w.cell? ⟨p, 0, none⟩ = some u ∧ w.cell? ⟨q, 0, none⟩ = some v ∧ Hid (Limbs w cb f) ∧ Hid (Below w0.heap.size w0 w)) :
    w1.cell? ⟨p, 0, none⟩ = some u ∧ w1.cell? ⟨q, 0, none⟩ = some v ∧ Hid (Limbs w1 cb f) ∧ Hid (Below w0.heap.size w0 w1) :=
  ⟨keep_cell hb h.1, keep_cell hb h.2.1, Lib.hid (h.2.2.1.out.keep hb), Lib.hid (h.2.2.2.out.trans (hb.mono h.2.2.2.out.size))⟩
theorem sk9d {p q cb : Nat} {u v : Value} {f : Nat → Int} {w0 w : World} (h : w.cell? ⟨p, 0, none⟩ = some u ∧ w.cell? ⟨q, 0, none⟩ = some v ∧ Hid (Limbs w cb f) ∧ Hid (Below w0.heap.size w0 w)) :
    w.drew.cell? ⟨p, 0, none⟩ = some u ∧ w.drew.cell? ⟨q, 0, none⟩ = some v ∧ Hid (Limbs w.drew cb f) ∧ Hid (Below w0.heap.size w0 w.drew) :=
  ⟨h.1, h.2.1, Lib.hid h.2.2.1.out.drew, Lib.hid h.2.2.2.out.drew⟩
theorem sk9L {p q cb : Nat} {u v : Value} {f : Nat → Int} {w0 w : World} (h : w.cell? ⟨p, 0, none⟩ = some u ∧ w.cell? ⟨q, 0, none⟩ = some v ∧ Hid (Limbs w cb f) ∧ Hid (Below w0.heap.size w0 w)) : Limbs w cb f := h.2.2.1.out

set_option maxRecDepth 100000 in
set_option maxHeartbeats 8000000 in
theorem adds_any (F G : Int → Int → Nat) (a b c d : Int) (X Y X' Y' S E r S1 E1 X1 Y1 X2 Y2 : Nat) (TF : Nat → Int) (w : World) (ht : ∀ a b w, Calls Try.prog 33 #[pair2 a b] w fun z w' => z = .returned (num (F a b) (G a b)) ∧ Below w.heap.size w w')
    (hX : F a b = X) (hY : G a b = Y) (hX' : F c d = X') (hY' : G c d = Y') (hadd : addF (X, Y) (X', Y') = some (S, E)) (fS : Fnt S) (fE : Fnt E) (hr : fadd S E = some r) (ho : (D.order r S == some .eq) = true)
    (m1 : fmul 4607182418800017408 S = some S1) (m2 : fmul 4607182418800017408 E = some E1) (m3 : fmul 13830554455654793216 X = some X1) (m4 : fmul 13830554455654793216 Y = some Y1) (m5 : fmul 13830554455654793216 X' = some X2) (m6 : fmul 13830554455654793216 Y' = some Y2)
    (f1 : Fnt S1) (f2 : Fnt E1) (f3 : Fnt X1) (f4 : Fnt Y1) (f5 : Fnt X2) (f6 : Fnt Y2)
    (t1 : ∀ x, x = X ∨ x = X' → ∀ w, Calls Try.prog 38 #[.float .f64 x] w fun z w' => z = .returned (.int .i64 (TF x)) ∧ w = w')
    (b1 : -1200 ≤ TF X) (b2 : TF X ≤ 200) (b3 : -1200 ≤ TF X') (b4 : TF X' ≤ 200)
    (hlt : ((iv S1 + iv E1 + (iv X1 + iv Y1) + (iv X2 + iv Y2)) * 2 ^ 126).natAbs < 2 ^ (30 * 110))
    (hK : ∀ K : Int, (∀ m : Nat, ((iv S1 + iv E1 + (iv X1 + iv Y1) + (iv X2 + iv Y2)) * 2 ^ 126).natAbs < 2 ^ m → K ≤ m - 1200) → K ≤ -1200 ∨ K ≤ TF X - 96 ∨ K ≤ TF X' - 96) :
    Calls Try.prog 6 #[pair2 a b, pair2 c d] w fun z w' => z = .returned (.bool true) ∧ Below w.heap.size w w' := by
  have HT := Lib.hid ht
  have HADD := Lib.hid hadd
  have HFS := Lib.hid fS
  have HFE := Lib.hid fE
  have HR := Lib.hid hr
  have HO := Lib.hid ho
  have M1 := Lib.hid m1
  have M2 := Lib.hid m2
  have M3 := Lib.hid m3
  have M4 := Lib.hid m4
  have M5 := Lib.hid m5
  have M6 := Lib.hid m6
  have F1 := Lib.hid f1
  have F2 := Lib.hid f2
  have F3 := Lib.hid f3
  have F4 := Lib.hid f4
  have F5 := Lib.hid f5
  have F6 := Lib.hid f6
  have T1 := Lib.hid t1
  have HLT := Lib.hid hlt
  have HK := Lib.hid hK
  clear ht hadd fS fE hr ho m1 m2 m3 m4 m5 m6 f1 f2 f3 f4 f5 f6 t1 hlt hK
  go_enter Try.func6, Try.ntmps6
  go_upto_region 1 with fail
  obtain ⟨D, hD⟩ : ∃ D, D = ((w.alloc (.cells #[.int .i64 a, .int .i64 b] 38)).alloc (.cells #[.int .i64 c, .int .i64 d] 38)) := ⟨_, rfl⟩
  rw [← hD]
  have hd0 : Two D w.heap.size (.int .i64 a) (.int .i64 b) := by rw [hD]; exact (Two.new _ _ _ _).alloc _
  have hd1 : Two D (w.heap.size + 1) (.int .i64 c) (.int .i64 d) := by rw [hD]; have := Two.new (w.alloc (.cells #[.int .i64 a, .int .i64 b] 38)) (.int .i64 c) (.int .i64 d) 38; simpa using this
  have hbD : Below w.heap.size w D := by rw [hD]; exact ((Below.refl _ _).alloc (Nat.le_refl _) _).alloc (by simp) _
  clear hD
  obtain ⟨b0, hb0⟩ : ∃ b0, b0 = w.heap.size := ⟨_, rfl⟩
  obtain ⟨b1, hb1⟩ : ∃ b1, b1 = w.heap.size + 1 := ⟨_, rfl⟩
  rw [← hb1, ← hb0]
  rw [← hb0] at hd0
  rw [← hb1] at hd1
  clear hb0 hb1
  have HD0 := Lib.hid hd0
  have HD1 := Lib.hid hd1
  clear hd0 hd1
  go_cut [5, 6] from 9 to 12 (fun s5 s6 wx => ∃ p q, s5 = .pointer (some ⟨p, 0, none⟩) ∧ s6 = .pointer (some ⟨q, 0, none⟩) ∧ Two wx p (.float .f64 X) (.float .f64 Y) ∧ Two wx q (.float .f64 X') (.float .f64 Y') ∧ p ≠ q ∧ D.heap.size ≤ p ∧ D.heap.size ≤ q ∧ Below D.heap.size D wx)
  case first =>
    go_region_held3 (fun w' => w'.cell? ⟨b0, 0, none⟩ = some (.int .i64 a) ∧ w'.cell? ⟨b0, 1, none⟩ = some (.int .i64 b) ∧ w'.cell? ⟨b1, 0, none⟩ = some (.int .i64 c) ∧ w'.cell? ⟨b1, 1, none⟩ = some (.int .i64 d) ∧ Hid (Below D.heap.size D w'))
      (first
        | with_reducible exact skD1 HD0.out HD1.out (hid_drew _)
        | with_reducible exact skD1 HD0.out HD1.out (hid_refl _)
        | with_reducible exact skD1 HD0.out HD1.out (by assumption)
        | with_reducible exact skDa HD0.out HD1.out (by assumption)
        | with_reducible exact skDaa HD0.out HD1.out (by assumption)
        | with_reducible exact skDa HD0.out HD1.out (hid_refl _)
        | with_reducible exact skDaa HD0.out HD1.out (hid_drew _)
        | with_reducible exact skD1 HD0.out HD1.out (hid_set (by assumption) (by omega))
        | with_reducible exact skD1 HD0.out HD1.out (hid_alloc (hid_set (by assumption) (by omega)))
        | with_reducible exact skD1 HD0.out HD1.out (hid_set (hid_set (by assumption) (by omega)) (by omega))
        | with_reducible exact skD1 HD0.out HD1.out (hid_dr (hid_alloc (hid_refl _)))
        | with_reducible exact skD1 HD0.out HD1.out (hid_dr (hid_alloc (hid_alloc (hid_refl _))))
        | fail)
      (first
        | (go_at_call 33; refine (HT.out _ _ _).mono ?_; rintro z w' ⟨rfl, hbb⟩; have hbw := (by with_reducible exact sB hbb (by assumption) : Hid (Below D.heap.size D w')); have hs := hbb.size; have hbs := hbw.out.size;
           try (with_reducible (replace hbb := undrew hbb));
           try (with_reducible (have o1 := Two.over0 k1 hbb));
           try (with_reducible (have o1 := Two.over1 k1 hbb));
           try (with_reducible (have o2 := And.intro (Two.over0 k2.1 hbb) (Two.over0 k2.2 hbb)));
           try (with_reducible (have k2 := keepAA hbb));
           try (with_reducible (have k1 := keepA hbb));
           try (have p1 := k2.1; have p2 := k2.2);
           try (have p3 := o2.1; have p4 := o2.2);
           try (have oo := o1; have ol := oo.lt; obtain ⟨r0, r1, f0, f1⟩ := oo);
           try (have oo := k1; have ol := oo.lt; obtain ⟨r0, r1, f0, f1⟩ := oo);
           try (have oo := k2.1; have ol := oo.lt; obtain ⟨r0, r1, f0, f1⟩ := oo);
           try (have oo := k2.2; have ol := oo.lt; obtain ⟨r0, r1, f0, f1⟩ := oo);
           try (have oo := o2.1; have ol := oo.lt; obtain ⟨r0, r1, f0, f1⟩ := oo);
           try (have oo := o2.2; have ol := oo.lt; obtain ⟨r0, r1, f0, f1⟩ := oo)))
    all_goals (go_wp2_with fail; go_meet)
    all_goals refine ⟨_, _, rfl, rfl, ?_, ?_, ?_, ?_, ?_, ?_⟩
    all_goals first
      | omega
      | (simp; done)
      | (simp; omega)
      | with_reducible exact (Two.new _ _ _ _).alloc _
      | with_reducible exact Two.new' (by simp) _ _ _
      | with_reducible exact (Two.setBoth (by assumption) _ _).alloc _
      | with_reducible exact Two.setFirst (by assumption) (by omega)
      | with_reducible exact Two.setSecond (by assumption) (by omega)
      | with_reducible exact (hid_alloc (hid_alloc (by assumption))).out
      | with_reducible exact (hid_alloc (hid_set (by assumption) (by omega))).out
      | with_reducible exact (hid_set (hid_set (by assumption) (by omega)) (by omega)).out
      | fail
  case rest =>
    obtain ⟨p, q, rfl, rfl, hp, hq, hpq, hpD, hqD, hbw⟩ := hcut
    have HP := Lib.hid hp
    have HQ := Lib.hid hq
    have BW : Hid (Below w.heap.size w wc) := Lib.hid (hbD.trans (hbw.mono hbD.size))
    obtain ⟨r0, r1, g0, g1⟩ := hp
    obtain ⟨r2, r3, g2, g3⟩ := hq
    clear hbw hbD HD0 HD1 HT hX hY hX' hY'
    go_wp2_with fail
    refine (add_any _ _ _ _ _ _ _ HADD.out).mono ?_
    rintro z w1 ⟨rfl, hb1⟩
    have HP1 := Lib.hid (HP.out.keep hb1)
    have HQ1 := Lib.hid (HQ.out.keep hb1)
    have BW1 : Hid (Below w.heap.size w w1) := Lib.hid (BW.out.trans (hb1.mono BW.out.size))
    have z1 := hb1.size
    clear hb1 r0 r1 g0 g1 r2 r3 g2 g3 HP HQ
    go_wp2_with fail
    have TN : Two (w1.alloc (.cells #[.float .f64 S, .float .f64 E] 25)) w1.heap.size (.float .f64 S) (.float .f64 E) := Two.new _ _ _ _
    refine (wakes4_any _).mono ?_
    rintro z w2 ⟨rfl, hb2⟩
    have HN2 := Lib.hid (TN.keep hb2)
    have HP2 := Lib.hid (((HP1.out.alloc (.cells #[.float .f64 S, .float .f64 E] 25))).keep hb2)
    have HQ2 := Lib.hid (((HQ1.out.alloc (.cells #[.float .f64 S, .float .f64 E] 25))).keep hb2)
    have BW2 : Hid (Below w.heap.size w w2) := Lib.hid ((BW1.out.alloc BW1.out.size (.cells #[.float .f64 S, .float .f64 E] 25)).trans (hb2.mono (BW1.out.alloc BW1.out.size (.cells #[.float .f64 S, .float .f64 E] 25)).size))
    clear hb2 TN
    obtain ⟨n, hn⟩ : ∃ n, n = w1.heap.size := ⟨_, rfl⟩
    rw [← hn] at HN2 ⊢
    clear hn HP1 HQ1 BW1 z1
    obtain ⟨r0, r1, g0, g1⟩ := HN2.out
    go_wp2_with fail
    refine (fine_any _ _ _ _ HFS.out HFE.out HR.out HO.out).mono ?_
    rintro z w3 ⟨rfl, hb3⟩
    have HN3 := Lib.hid (HN2.out.keep hb3)
    have HP3 := Lib.hid (HP2.out.keep hb3)
    have HQ3 := Lib.hid (HQ2.out.keep hb3)
    have BW3 : Hid (Below w.heap.size w w3) := Lib.hid (BW2.out.trans (hb3.mono BW2.out.size))
    clear hb3 HN2 HP2 HQ2 BW2 r0 r1 g0 g1
    have L0 := Lib.hid (limbs_new w3)
    have HN4 := Lib.hid (HN3.out.alloc (.cells Try.zeroCells33 33))
    have HP4 := Lib.hid (HP3.out.alloc (.cells Try.zeroCells33 33))
    have HQ4 := Lib.hid (HQ3.out.alloc (.cells Try.zeroCells33 33))
    have BW4 : Hid (Below w.heap.size w (w3.alloc (.cells Try.zeroCells33 33))) := Lib.hid (BW3.out.alloc BW3.out.size _)
    have n3 := HN3.out.lt
    have p3 := HP3.out.lt
    have q3 := HQ3.out.lt
    have z3 := BW3.out.size
    obtain ⟨r0, r1, g0, g1⟩ := HN4.out
    clear HN3 HP3 HQ3 BW3
    go_wp2_with fail
    refine (lput_any _ _ _ _ _ _ _ _ M1.out M2.out F1.out F2.out L0.out 0 (by omega) (fun _ => by simp)).mono ?_
    rintro z w5 ⟨rfl, l1, k1, k2, k3, k4⟩
    obtain ⟨cb, hcb⟩ : ∃ cb, cb = w3.heap.size := ⟨_, rfl⟩
    rw [← hcb] at k1 k4 n3 p3 q3 z3 ⊢
    have L1 := Lib.hid k1
    have N1 := Lib.hid k2
    have V1 := Lib.hid k3
    have HP5 := Lib.hid (HP4.out.only k4 (by omega))
    have HQ5 := Lib.hid (HQ4.out.only k4 (by omega))
    have BW5 : Hid (Below w.heap.size w w5) := Lib.hid (BW4.out.trans ((k4.below (by simp; omega)).mono z3))
    clear k1 k2 k3 k4 r0 r1 g0 g1 HN4 HP4 HQ4 BW4 L0 hcb
    obtain ⟨r0, r1, g0, g1⟩ := HP5.out
    go_wp2_with fail
    refine (lput_any _ _ _ _ _ _ _ _ M3.out M4.out F3.out F4.out L1.out _ (by omega) N1.out).mono ?_
    rintro z w6 ⟨rfl, l2, k1, k2, k3, k4⟩
    have L2 := Lib.hid k1
    have N2 := Lib.hid k2
    have V2 := Lib.hid k3
    have HP6 := Lib.hid (HP5.out.only k4 (by omega))
    have HQ6 := Lib.hid (HQ5.out.only k4 (by omega))
    have z5 := L1.out.lt
    have BW6 : Hid (Below w.heap.size w w6) := Lib.hid (BW5.out.trans ((k4.below (by omega)).mono z3))
    clear k1 k2 k3 k4 r0 r1 g0 g1 HP5 HQ5 BW5 L1
    obtain ⟨r0, r1, g0, g1⟩ := HQ6.out
    go_wp2_with fail
    refine (lput_any _ _ _ _ _ _ _ _ M5.out M6.out F5.out F6.out L2.out _ (by omega) N2.out).mono ?_
    rintro z w7 ⟨rfl, l3, k1, k2, k3, k4⟩
    have L3 := Lib.hid k1
    have N3 := Lib.hid k2
    have V3 := Lib.hid k3
    have HP7 := Lib.hid (HP6.out.only k4 (by omega))
    have HQ7 := Lib.hid (HQ6.out.only k4 (by omega))
    have z6 := L2.out.lt
    have BW7 : Hid (Below w.heap.size w w7) := Lib.hid (BW6.out.trans ((k4.below (by omega)).mono z3))
    clear k1 k2 k3 k4 r0 r1 g0 g1 HP6 HQ6 BW6 L2
    have VV : Hid (val l3 110 = (iv S1 + iv E1 + (iv X1 + iv Y1) + (iv X2 + iv Y2)) * 2 ^ 126) := Lib.hid (by
      rw [V3.out, V2.out, V1.out, val_zero, Int.zero_add, ← Int.add_mul, ← Int.add_mul])
    rw [← VV.out] at HLT HK
    have HB : Hid (Bnd l3 (0 + 2 * 2 ^ 32 + 2 * 2 ^ 32 + 2 * 2 ^ 32)) := N3
    clear V1 V2 V3 N1 N2 N3 VV F1 F2 F3 F4 F5 F6 M1 M2 M3 M4 M5 M6 HADD HFS HFE HR HO
    obtain ⟨r0, r1, g0, g1⟩ := HP7.out
    obtain ⟨r2, r3, g2, g3⟩ := HQ7.out
    clear r1 g0 g1 r3 g2 g3 HP7 HQ7
    have hwr : IntKind.i64.wrap ((if TF X < TF X' then TF X' else TF X) - 96) = (if TF X < TF X' then TF X' else TF X) - 96 := by rw [IntKind.wrap_i64]; split <;> omega
    go_upto_region 9 with fail
    go_region_held3 (fun w' => w'.cell? ⟨p, 0, none⟩ = some (.float .f64 X) ∧ w'.cell? ⟨q, 0, none⟩ = some (.float .f64 X') ∧ Hid (Limbs w' cb l3) ∧ Hid (Below w.heap.size w w'))
      (first | exact ⟨r0, r2, L3, BW7⟩ | exact sk9d ⟨r0, r2, L3, BW7⟩ | assumption | (refine sk9 hbb ?_; assumption) | (trace_state; fail))
      (first
        | (go_at_call 37; refine (size_any _ _ _ (sk9L (by assumption)) _ (by omega) HB.out HLT.out).mono ?_; rintro z w' ⟨K, rfl, hbb, hKK⟩; have HKK := Lib.hid (HK.out K hKK); clear hKK)
        | (go_at_call 38; refine (T1.out _ ?_ _).mono ?_; (first | exact Or.inl rfl | exact Or.inr rfl); rintro z w' ⟨rfl, rfl⟩))
    all_goals
      obtain ⟨_, _, _, B9⟩ : _ ∧ _ ∧ _ ∧ Hid (Below w.heap.size w _) := by assumption
      have e : decide (K ≤ if -1200 < (if TF X < TF X' then TF X' else TF X) - 96 then (if TF X < TF X' then TF X' else TF X) - 96 else -1200) = true := by
        have h := HKK.out
        clear hwr
        apply decide_eq_true
        split <;> split at * <;> omega
      rw [e]
      go_wp2
      all_goals (go_ret; exact ⟨rfl, B9.out⟩)
end Go.Proofs.Ytnpkblidlmkagaa
