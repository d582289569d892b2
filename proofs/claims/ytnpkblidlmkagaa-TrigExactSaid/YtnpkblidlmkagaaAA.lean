import Derived.Test.YtnpkblidlmkagaaRA
import Derived.Test.YtnpkblidlmkagaaW19
import Derived.Test.YtnpkblidlmkagaaG9
import Derived.Test.YtnpkblidlmkagaaV9
import Derived.Test.YtnpkblidlmkagaaRB
import Derived.Test.YtnpkblidlmkagaaV8
import Derived.BigQuiet
/- far: how far a number is from a fixed one. -/
set_option linter.unusedSimpArgs false
set_option linter.unusedVariables false
namespace Go.Proofs.Ytnpkblidlmkagaa
open Go.RowKit Fl

theorem RowI.only {W w1 : World} {b c n : Nat} {f : Nat → Int} (h : OnlyB c W w1) (hbc : b ≠ c) (t : RowI W b n f) : RowI w1 b n f := fun i hi => by
  have hl := World.block_lt_of_cell? _ _ (t i hi).1
  exact ⟨by rw [h.cell (p := ⟨b, i, none⟩) hl hbc]; exact (t i hi).1, by rw [h.frozen (p := ⟨b, i, none⟩) hl hbc]; exact (t i hi).2⟩

set_option maxRecDepth 100000 in
set_option maxHeartbeats 4000000 in
theorem far_any (f : Nat → Int) (V s : Int) (hi lo P : Nat) (w : World) (hP : P = 1080) (hs : s = 1 ∨ s = -1) (hf : Fx f V) (h1 : Fnt hi) (h2 : Fnt lo)
    (hlt : (s * V * 2 ^ P - (iv hi + iv lo) * 2 ^ 126).natAbs < 2 ^ (30 * 110)) :
    Calls Try.prog 50 #[num hi lo, fxv f, .int .i64 s] w fun z w' => ∃ K : Int, z = .returned (.int .i64 K) ∧ Below w.heap.size w w' ∧
      ∀ m : Nat, (s * V * 2 ^ P - (iv hi + iv lo) * 2 ^ 126).natAbs < 2 ^ m → K ≤ m - 1200 := by
  have HF := Lib.hid hf
  have HL := Lib.hid hlt
  have n1 := Lib.hid (fneg_spec h1)
  have n2 := Lib.hid (fneg_spec h2)
  have HPP := Lib.hid hP
  clear hf hlt h1 h2
  have T0 := Lib.hid (((Two.new w (.float .f64 hi) (.float .f64 lo) 25).alloc (.cells #[.int .i64 (f 0), .int .i64 (f 1), .int .i64 (f 2), .int .i64 (f 3), .int .i64 (f 4)] 58)).alloc (.cells Try.zeroCells33 33))
  have R0 : Hid (RowI (((w.alloc (.cells #[.float .f64 hi, .float .f64 lo] 25)).alloc (.cells #[.int .i64 (f 0), .int .i64 (f 1), .int .i64 (f 2), .int .i64 (f 3), .int .i64 (f 4)] 58)).alloc (.cells Try.zeroCells33 33)) (w.heap.size + 1) 5 f) := Lib.hid (by
    have := (row5_new (w.alloc (.cells #[.float .f64 hi, .float .f64 lo] 25)) f 58).alloc (.cells Try.zeroCells33 33)
    simpa using this)
  have L0 : Hid (Limbs (((w.alloc (.cells #[.float .f64 hi, .float .f64 lo] 25)).alloc (.cells #[.int .i64 (f 0), .int .i64 (f 1), .int .i64 (f 2), .int .i64 (f 3), .int .i64 (f 4)] 58)).alloc (.cells Try.zeroCells33 33)) (w.heap.size + 1 + 1) (fun _ => 0)) := Lib.hid (by
    have := limbs_new ((w.alloc (.cells #[.float .f64 hi, .float .f64 lo] 25)).alloc (.cells #[.int .i64 (f 0), .int .i64 (f 1), .int .i64 (f 2), .int .i64 (f 3), .int .i64 (f 4)] 58))
    simpa using this)
  have B0 := Lib.hid ((((Below.refl _ w).alloc (Nat.le_refl _) (.cells #[.float .f64 hi, .float .f64 lo] 25)).alloc (by simp) (.cells #[.int .i64 (f 0), .int .i64 (f 1), .int .i64 (f 2), .int .i64 (f 3), .int .i64 (f 4)] 58)).alloc (by simp; omega) (.cells Try.zeroCells33 33))
  go_enter Try.func50, Try.ntmps50
  go_wp2_with fail
  go_loopw [11] (fun i wr => ∃ (k : Nat) (g : Nat → Int), k ≤ 5 ∧ i = .int .i64 k ∧ Hid (Limbs wr (w.heap.size + 1 + 1) g) ∧ Hid (Bnd g (k * 2 ^ 32)) ∧ Hid (val g 110 = s * val f k * 2 ^ P) ∧ Hid (Two wr w.heap.size (.float .f64 hi) (.float .f64 lo)) ∧ Hid (RowI wr (w.heap.size + 1) 5 f) ∧ Hid (Below w.heap.size w wr)) (fun i _ => 5 - (intOf i).toNat)
  case atStart => exact ⟨0, _, by omega, rfl, L0, Lib.hid (fun i => by show -((0 * 2 ^ 32 : Nat) : Int) ≤ 0 ∧ (0 : Int) ≤ _; omega), Lib.hid (by rw [val_zero]; show 0 = s * 0 * _; rw [Int.mul_zero, Int.zero_mul]), T0, R0, B0⟩
  case round =>
    obtain ⟨k, g, hk, rfl, hl, hb, hv, ht, hr, hbw⟩ := hrel
    clear T0 R0 L0 B0
    have lz := hr.out.lt (by omega)
    have lz2 := hl.out.lt
    have lz3 := ht.out.lt
    by_cases hlt : k < 5
    · obtain ⟨r0, f0⟩ := hr.out k (by omega)
      have hfk := HF.out.lo k (by omega)
      obtain ⟨m, hm⟩ : ∃ m, m = s * f k := ⟨_, rfl⟩
      have hm1 : -1073741824 ≤ m ∧ m ≤ 1073741824 := by
        rcases hs with rfl | rfl <;> omega
      have wr1 : wrap64 (s * f k) = m := by rw [← hm]; unfold wrap64; omega
      have HM := Lib.hid hm
      clear hm
      go_wp2_with (first | simp only [wr1] | fail)
      refine (put_val (w.heap.size + 1 + 1) m (30 * (k : Int) - 120) g _ (by omega) (by omega) (by omega) (by omega) hl.out _ (by omega) hb.out).mono ?_
      rintro z w1 ⟨rfl, g', l1, b1, v1, o1⟩
      have L1 := Lib.hid l1
      have N1 := Lib.hid b1
      have V1 : Hid (val g' 110 = s * val f (k + 1) * 2 ^ P) := Lib.hid (by
        rw [v1, hv.out, HM.out]
        show _ = s * (val f k + f k * 2 ^ (30 * k)) * 2 ^ P
        have e : (30 * (k : Int) - 120 + 1200).toNat = 30 * k + P := by rw [HPP.out]; omega
        rw [e, Int.pow_add, Int.mul_add, Int.add_mul]
        congr 1
        rw [← Int.mul_assoc, ← Int.mul_assoc])
      have HT := Lib.hid (ht.out.only o1 (by omega))
      have HR := Lib.hid (hr.out.only o1 (by omega))
      have HB : Hid (Below w.heap.size w w1) := Lib.hid (hbw.out.trans ((o1.below (by omega)).mono (by omega)))
      clear l1 b1 v1 o1
      go_wp2_with fail
      exact ⟨⟨k + 1, _, by omega, by go_num, L1, Lib.hid (by have := N1.out; rwa [show k * 2 ^ 32 + 2 ^ 32 = (k + 1) * 2 ^ 32 by omega] at this), V1, HT, HR, HB⟩, by simp [intOf]; omega⟩
    · obtain rfl : k = 5 := by omega
      obtain ⟨p0, p1, p2, p3⟩ := ht.out
      go_wp2_with fail
      refine (ladd_any _ _ _ _ n1.out.1 hl.out _ (by omega) hb.out).mono ?_
      rintro z w2 ⟨rfl, g2, l2, b2, v2, o2⟩
      have L2 := Lib.hid l2
      have N2 := Lib.hid b2
      have V2 := Lib.hid v2
      have O2 := Lib.hid o2
      obtain ⟨q0, q1, q2, q3⟩ := ht.out.only o2 (by omega)
      clear l2 b2 v2 o2 p0 p1 p2 p3
      go_wp2_with fail
      refine (ladd_any _ _ _ _ n2.out.1 L2.out _ (by omega) N2.out).mono ?_
      rintro z w3 ⟨rfl, g3, l3, b3, v3, o3⟩
      have e : val g3 110 = s * V * 2 ^ P - (iv hi + iv lo) * 2 ^ 126 := by
        rw [v3, V2.out, hv.out, n1.out.2, n2.out.2, HF.out.v, Int.neg_mul, Int.neg_mul, Int.add_mul]
        omega
      have E3 := Lib.hid e
      have L3 := Lib.hid l3
      have N3 := Lib.hid b3
      have O3 := Lib.hid o3
      clear l3 b3 v3 o3 e
      go_wp2_with fail
      refine (size_any _ g3 _ L3.out _ (by omega) N3.out (by rw [E3.out]; exact HL.out)).mono ?_
      rintro z w4 ⟨K, rfl, hb4, hK⟩
      rw [E3.out] at hK
      go_wp2_with fail
      go_ret
      refine ⟨K, rfl, ?_, hK⟩
      have o := (O2.out.trans O3.out).below (show w.heap.size + 1 + 1 ≤ wr.heap.size by omega)
      have k2 := hbw.out.size
      exact (hbw.out.trans (o.mono (by omega))).trans (hb4.mono (by have := o.size; omega))

end Go.Proofs.Ytnpkblidlmkagaa

/- Plain: cosine and sine of every part of a turn against the document's. -/
set_option linter.unusedSimpArgs false
set_option linter.unusedVariables false
namespace Go.Proofs.Ytnpkblidlmkagaa
open Fl

theorem rS_zero_c : rS 0 32 0 - rS 0 32 2 = 1329227995784915872903807060280344576 := by decide +kernel
theorem rS_zero_s : rS 0 32 1 - rS 0 32 3 = 0 := by decide +kernel

/-- Near, within 2001 times 2^20 units of D. -/
theorem near_law {S D r n : Int} (hS : S = ((2 ^ U : Nat) : Int)) (hSD : S = 1329227995784915872903807060280344576 * D) (hD : 0 < D) (r0 : 0 ≤ r) (rn : r ≤ n) (n1 : 1 ≤ n) (n2 : n ≤ 536870912) :
    ∃ vc vs, Ok (nC n r) vc ∧ Ok (nS n r) vs ∧ (vc - dC r n * D ≤ 2001 * (1048576 * D) ∧ -(2001 * (1048576 * D)) ≤ vc - dC r n * D) ∧ (vs - dS r n * D ≤ 2001 * (1048576 * D) ∧ -(2001 * (1048576 * D)) ≤ vs - dS r n * D) := by
  by_cases hr : r = 0
  · have h : nearF r n = some ((oneW, 0), (0, 0)) := by unfold nearF; rw [if_pos hr]
    have e1 : nC n r = (oneW, 0) := by unfold nC; rw [h]; rfl
    have e2 : nS n r = (0, 0) := by unfold nS; rw [h]; rfl
    have eX : dX r n = 0 := by unfold dX; rw [hr, Int.mul_zero, Int.zero_ediv]
    have eC : dC r n * D = S := by unfold dC; rw [eX, rS_zero_c, hSD]
    have eS : dS r n * D = 0 := by unfold dS; rw [eX, rS_zero_s, Int.zero_mul]
    rw [e1, e2, eC, eS]
    exact ⟨S, 0, ok_one hS, ok_zero, by omega, by omega⟩
  · obtain ⟨c, s, vc, vs, h, hc, hs, hv, b1, b2⟩ := near_ok (S := S) hS (show 1 ≤ r by omega) rn (by omega)
    have e1 : nC n r = c := by unfold nC; rw [h]; rfl
    have e2 : nS n r = if r = n then c else s := by unfold nS; rw [h]; rfl
    have hpi : piV = 1043973226625944089706719114415889436 * D + 996 * D := by
      have h1 := iv_q1 hS
      have h2 := iv_q2 hS
      unfold piV
      rw [hSD] at h1 h2
      generalize iv 4605249457297304856 = a at *
      generalize iv 4359948597267291143 = b at *
      clear hSD
      omega
    obtain ⟨k1, k2⟩ := near_doc (X' := dX r n) hSD hD hpi (show 1 ≤ r by omega) rn hv rfl
    rw [e1, e2]
    by_cases hrn : r = n
    · rw [if_pos hrn]
      have eX : dX r n = eighth120 := by unfold dX; rw [hrn, Int.mul_ediv_cancel _ (by omega)]
      have hd := doc_eighth
      rw [← eX] at hd
      have e3 : (rS (dX r n) 32 0 - rS (dX r n) 32 2) * D = (rS (dX r n) 32 1 - rS (dX r n) 32 3) * D + 2 * D := by
        rw [← Int.add_mul]; congr 1; omega
      refine ⟨vc, vc, hc, hc, ?_, ?_⟩
      · show vc - (rS (dX r n) 32 0 - rS (dX r n) 32 2) * D ≤ _ ∧ _ ≤ vc - (rS (dX r n) 32 0 - rS (dX r n) 32 2) * D
        omega
      · show vc - (rS (dX r n) 32 1 - rS (dX r n) 32 3) * D ≤ _ ∧ _ ≤ vc - (rS (dX r n) 32 1 - rS (dX r n) 32 3) * D
        omega
    · rw [if_neg hrn]
      refine ⟨vc, vs, hc, hs, ?_, ?_⟩
      · show vc - (rS (dX r n) 32 0 - rS (dX r n) 32 2) * D ≤ _ ∧ _ ≤ vc - (rS (dX r n) 32 0 - rS (dX r n) 32 2) * D
        omega
      · show vs - (rS (dX r n) 32 1 - rS (dX r n) 32 3) * D ≤ _ ∧ _ ≤ vs - (rS (dX r n) 32 1 - rS (dX r n) 32 3) * D
        omega

theorem Ok.plain {a : Nat × Nat} {v : Int} (h : Ok a v) : Ok (plainF a) v := by
  unfold plainF
  split
  · rename_i h0
    have hr := rnd_rel v
    rw [h.neat, h0] at hr
    have e53 : (2 : Int) ^ 53 = 9007199254740992 := by decide
    rw [e53] at hr
    have hv : v = 0 := by omega
    rw [hv]; exact ok_zero
  · exact h

/-- A number v within so much of the document's. -/
structure Doc (D : Int) (a : Nat × Nat) (d : Int) : Prop where
  out : ∃ v, Ok a v ∧ v - d * D ≤ 2001 * (1048576 * D) ∧ -(2001 * (1048576 * D)) ≤ v - d * D

theorem Doc.neg {D d : Int} {a : Nat × Nat} (h : Doc D a d) : Doc D (negP a) (-1 * d) := by
  obtain ⟨v, h1, h2, h3⟩ := h.out
  refine ⟨-v, h1.neg, ?_⟩
  have e : -1 * d * D = -(d * D) := by rw [Int.mul_assoc]; omega
  rw [e]; omega
theorem Doc.plain {D d : Int} {a : Nat × Nat} (h : Doc D a d) : Doc D (plainF a) d := by
  obtain ⟨v, h1, h2, h3⟩ := h.out
  exact ⟨v, h1.plain, h2, h3⟩
theorem Doc.one {D d : Int} {a : Nat × Nat} (h : Doc D a d) : Doc D a (1 * d) := by rw [Int.one_mul]; exact h

theorem ex_doc {S D : Int} (hS : S = ((2 ^ U : Nat) : Int)) (hSD : S = 1329227995784915872903807060280344576 * D) (hD : 0 < D) (k n : Int) (n1 : 1 ≤ n) (n2 : n ≤ 536870912) :
    Doc D (exC k n) (docA k n * docC k n) ∧ Doc D (exS k n) (docB k n * docS k n) := by
  obtain ⟨r1, r2⟩ := octR_bd k n n1
  obtain ⟨vc, vs, h1, h2, h3, h4⟩ := near_law hS hSD hD r1 r2 n1 n2
  have hc : Doc D (nC n (octR k n)) (dC (octR k n) n) := ⟨vc, h1, h3.1, h3.2⟩
  have hs : Doc D (nS n (octR k n)) (dS (octR k n) n) := ⟨vs, h2, h4.1, h4.2⟩
  unfold exC exS turnC turnS docA docB docC docS
  constructor
  · apply Doc.plain
    split
    · apply Doc.neg; split <;> assumption
    · apply Doc.one; split <;> assumption
  · apply Doc.plain
    split
    · apply Doc.neg; split <;> assumption
    · apply Doc.one; split <;> assumption

/-- The document's numbers are from 0 to 3/2. -/
theorem dCS_bd (r n : Int) (r0 : 0 ≤ r) (rn : r ≤ n) (n1 : 1 ≤ n) : (0 ≤ dC r n ∧ 2 * dC r n ≤ 3 * 1329227995784915872903807060280344576) ∧ (0 ≤ dS r n ∧ 2 * dS r n ≤ 3 * 1329227995784915872903807060280344576) := by
  have X0 : 0 ≤ dX r n := Int.ediv_nonneg (Int.mul_nonneg (by decide) r0) (by omega)
  have X1 : dX r n ≤ 1329227995784915872903807060280344576 := by
    unfold dX
    refine Int.le_trans (Int.ediv_le_ediv (by omega) (show eighth120 * r ≤ 1329227995784915872903807060280344576 * n from ?_)) ?_
    · exact Int.mul_le_mul (by decide) rn r0 (by decide)
    · rw [Int.mul_ediv_cancel _ (by omega)]; exact Int.le_refl _
  unfold dC dS
  obtain ⟨X, hX⟩ : ∃ X, X = dX r n := ⟨_, rfl⟩
  rw [← hX] at X0 X1 ⊢
  have l0 := rS_le X0 X1 0 (by omega) 8
  have l1 := rS_le X0 X1 1 (by omega) 8
  have p2 := (rS_bd X0 X1 2 32).1
  have p3 := (rS_bd X0 X1 3 32).1
  have base : ∀ i : Nat, ((i : Int) + 1) * rT X (i + 1) ≤ rT X i ∧ 0 ≤ rT X i := by
    intro i
    have h0 := (rT_bd X0 X1 i).1
    have e : rT X (i + 1) = rT X i * X / 2 ^ 120 / ((i : Int) + 1) := rfl
    rw [e120] at e
    obtain ⟨y, hy⟩ : ∃ y, y = rT X i * X / 1329227995784915872903807060280344576 := ⟨_, rfl⟩
    rw [← hy] at e
    have h1 := Int.mul_ediv_self_le (x := y) (k := (i : Int) + 1) (by omega)
    rw [← e] at h1
    have h2 := Int.mul_le_mul_of_nonneg_left X1 h0
    generalize ((i : Int) + 1) * rT X (i + 1) = z at *
    generalize rT X i * X = p at *
    clear e
    omega
  have four : ∀ i : Nat, 1 ≤ i → 4 * rT X (i + 4) ≤ rT X i := by
    intro i hi
    have b0 := base i
    have b1 := base (i + 1)
    have b2 := base (i + 2)
    have b3 := base (i + 3)
    have b4 := base (i + 4)
    have q : ∀ j : Nat, 1 ≤ j → 0 ≤ rT X (j + 1) → ((j : Int) + 1) * rT X (j + 1) ≤ rT X j → 2 * rT X (j + 1) ≤ rT X j := by
      intro j hj h0 h1
      have := Int.mul_le_mul_of_nonneg_right (show (2 : Int) ≤ (j : Int) + 1 by omega) h0
      omega
    have c0 := q i hi b1.2 b0.1
    have c1 := q (i + 1) (by omega) b2.2 b1.1
    have c2 := q (i + 2) (by omega) b3.2 b2.1
    have c3 := q (i + 3) (by omega) b4.2 b3.1
    have h3 := b4.2
    have h2 := b3.2
    have e1 : i + 1 + 1 = i + 2 := rfl
    have e2 : i + 2 + 1 = i + 3 := rfl
    have e3 : i + 3 + 1 = i + 4 := rfl
    rw [e1] at c1
    rw [e2] at c2
    rw [e3] at c3
    clear b0 b1 b2 b3 b4
    omega
  have t0 : rT X 0 ≤ 1329227995784915872903807060280344576 := (rT_bd X0 X1 0).2.1
  have t1 : rT X 1 ≤ 1329227995784915872903807060280344576 := (rT_bd X0 X1 1).2.1
  have b1 : 2 * rT X 2 ≤ rT X 1 := (base 1).1
  have b2 : 3 * rT X 3 ≤ rT X 2 := (base 2).1
  have b3 : 4 * rT X 4 ≤ rT X 3 := (base 3).1
  have b4 : 5 * rT X 5 ≤ rT X 4 := (base 4).1
  have f4 := four 4 (by omega)
  have f8 := four 8 (by omega)
  have f12 := four 12 (by omega)
  have f16 := four 16 (by omega)
  have f20 := four 20 (by omega)
  have f24 := four 24 (by omega)
  have f5 := four 5 (by omega)
  have f9 := four 9 (by omega)
  have f13 := four 13 (by omega)
  have f17 := four 17 (by omega)
  have f21 := four 21 (by omega)
  have f25 := four 25 (by omega)
  have n2 := (base 2).2
  have n3 := (base 3).2
  have n4 := (base 4).2
  have n5 := (base 5).2
  have n8 := (base 8).2
  have n28 := (base 28).2
  have n29 := (base 29).2
  have s0 : rS X 32 0 = rT X 0 + rT X 4 + rT X 8 + rT X 12 + rT X 16 + rT X 20 + rT X 24 + rT X 28 := by simp [rS]
  have s1 : rS X 32 1 = rT X 1 + rT X 5 + rT X 9 + rT X 13 + rT X 17 + rT X 21 + rT X 25 + rT X 29 := by simp [rS]
  clear base four hX
  simp only [Nat.reduceAdd] at f4 f8 f12 f16 f20 f24 f5 f9 f13 f17 f21 f25
  have m0 : 2 * rS X 32 0 ≤ 3 * 1329227995784915872903807060280344576 := by rw [s0]; clear s0 s1 l0 l1 p2 p3; omega
  have m1 : 2 * rS X 32 1 ≤ 3 * 1329227995784915872903807060280344576 := by rw [s1]; clear s0 s1 l0 l1 p2 p3 m0; omega
  have l0' : rS X 32 2 ≤ rS X 32 0 := l0
  have l1' : rS X 32 3 ≤ rS X 32 1 := l1
  clear s0 s1 l0 l1 f4 f8 f12 f16 f20 f24 f5 f9 f13 f17 f21 f25
  omega

end Go.Proofs.Ytnpkblidlmkagaa

/- fine, far by the document's numbers. -/
set_option linter.unusedSimpArgs false
set_option linter.unusedVariables false
namespace Go.Proofs.Ytnpkblidlmkagaa
open Go.RowKit Fl

/-- fine of layer 5, of a number that is. -/
theorem fine5_any (h l r : Nat) (w : World) (h1 : Fnt h) (h2 : Fnt l) (hf : fadd h l = some r) (hv : (D.order r h == some .eq) = true) :
    Calls Try.prog 49 #[num h l] w fun z w' => z = .returned (.bool true) ∧ Below w.heap.size w w' := by
  have c1 := fun w => finite_any h w h1.1
  have c2 := fun w => finite_any l w h2.1
  rw [finB_fnt h1] at c1
  rw [finB_fnt h2] at c2
  have C1 := Lib.hid c1
  have C2 := Lib.hid c2
  have HF := Lib.hid hf
  have HV := Lib.hid hv
  clear c1 c2 hf hv h1 h2
  go_enter Try.func49, Try.ntmps49
  go_wp2_with fail
  refine (C1.out _).mono ?_
  rintro z w' ⟨rfl, rfl⟩
  go_wp2_with fail
  refine (C2.out _).mono ?_
  rintro z w' ⟨rfl, rfl⟩
  go_wp2_with fail
  refine (neat_any _ _ _ _ _ HF.out HV.out).mono ?_
  rintro z w' ⟨rfl, rfl⟩
  go_wp2
  go_ret
  exact ⟨rfl, (Below.refl _ _).alloc (Nat.le_refl _) _⟩

theorem Sml.fine {a : Nat × Nat} (h : Sml a) (w : World) : Calls Try.prog 49 #[num a.1 a.2] w fun z w' => z = .returned (.bool true) ∧ Below w.heap.size w w' := by
  obtain ⟨x, h1, fx, vx⟩ := h.float
  exact fine5_any a.1 a.2 x w h.f1 h.f2 h1 (order_eq fx h.f1 vx)

theorem far_plain {z D : Int} {q t P : Nat} (hq : q = 954) (ht : t ≤ 100) (hP : P = 1080) (hD : D = (2 : Int) ^ q) (V s v : Int) (hz : s * V * D - v = z) (hlt : z.natAbs < 2 ^ (t + q)) :
    (s * V * 2 ^ P - v * 2 ^ 126).natAbs < 2 ^ (t + q + 126) := by
  have e : s * V * 2 ^ P - v * 2 ^ 126 = z * 2 ^ 126 := by
    have : (2 : Int) ^ P = D * 2 ^ 126 := by rw [hD, ← Int.pow_add]; congr 1; omega
    rw [this, ← hz, Int.sub_mul, Int.mul_assoc (s * V)]
  rw [e, Int.natAbs_mul, show ((2 : Int) ^ 126).natAbs = 2 ^ 126 by decide, Nat.pow_add 2 (t + q) 126]
  exact Nat.mul_lt_mul_of_pos_right hlt (Nat.two_pow_pos 126)

set_option exponentiation.threshold 4000 in
theorem far_doc {a : Nat × Nat} {D s V v z : Int} {q t : Nat} (hq : q = 954) (ht : t ≤ 100) (hD : D = (2 : Int) ^ q) (f1 : Fnt a.1) (f2 : Fnt a.2) (hv : iv a.1 + iv a.2 = v) (hs : s = 1 ∨ s = -1) (hz : s * V * D - v = z) (hlt : z.natAbs < 2 ^ (t + q)) (f : Nat → Int) (hf : Fx f V) (w : World) :
    Calls Try.prog 50 #[num a.1 a.2, fxv f, .int .i64 s] w fun z w' => ∃ K : Int, z = .returned (.int .i64 K) ∧ K ≤ (t : Int) - 120 ∧ Below w.heap.size w w' := by
  obtain ⟨P, hP⟩ : ∃ P : Nat, P = 1080 := ⟨_, rfl⟩
  have hl := far_plain hq ht hP hD V s v hz hlt
  rw [← hv] at hl
  refine (far_any f V s a.1 a.2 P w hP hs hf f1 f2 ?_).mono ?_
  · exact Nat.lt_of_lt_of_le hl (Nat.pow_le_pow_right (by omega) (by omega))
  · rintro z w' ⟨K, rfl, hb, hK⟩
    have := hK _ hl
    exact ⟨K, rfl, by omega, hb⟩

/-- The unit of the document in those of floats. -/
theorem unit_D : ∃ (q : Nat) (D S : Int), q = 954 ∧ D = (2 : Int) ^ q ∧ S = ((2 ^ U : Nat) : Int) ∧ S = 1329227995784915872903807060280344576 * D ∧ 0 < D := by
  obtain ⟨q, hq⟩ : ∃ q : Nat, q = 954 := ⟨_, rfl⟩
  have hU := U_eq
  refine ⟨q, _, _, hq, rfl, rfl, ?_, Int.pow_pos (by omega)⟩
  rw [show U = 120 + q by omega, Nat.pow_add, Int.natCast_mul, Int.natCast_pow 2 q]
  rfl

theorem docA_sign (k n : Int) : docA k n = 1 ∨ docA k n = -1 := by unfold docA; split <;> simp
theorem docB_sign (k n : Int) : docB k n = 1 ∨ docB k n = -1 := by unfold docB; split <;> simp

theorem Doc.size {D s V : Int} {a : Nat × Nat} {q : Nat} (hq : q = 954) (hD : D = (2 : Int) ^ q) (h : Doc D a (s * V)) (hs : s = 1 ∨ s = -1) (f : Nat → Int) (hf : Fx f V) (w : World) :
    Calls Try.prog 50 #[num a.1 a.2, fxv f, .int .i64 s] w fun z w' => ∃ K : Int, z = .returned (.int .i64 K) ∧ K ≤ -89 ∧ Below w.heap.size w w' := by
  obtain ⟨v, h1, h2, h3⟩ := h.out
  have hp : 0 < D := by rw [hD]; exact Int.pow_pos (by omega)
  refine (far_doc (t := 31) hq (by omega) hD h1.f1 h1.f2 h1.v hs rfl ?_ f hf w).mono ?_
  · apply Int.ofNat_lt.1
    have e : ((2 ^ (31 + q) : Nat) : Int) = 2147483648 * D := by rw [Nat.pow_add, Int.natCast_mul, hD, Int.natCast_pow 2 q]; rfl
    rw [e]
    generalize s * V * D = y at *
    clear hD e
    omega
  · rintro z w' ⟨K, rfl, hK, hb⟩
    exact ⟨K, rfl, by omega, hb⟩

/-- The float of a number, against the document's. -/
theorem Doc.sizeF {S D s V : Int} {a : Nat × Nat} {x q : Nat} (hq : q = 954) (hD : D = (2 : Int) ^ q) (hSD : S = 1329227995784915872903807060280344576 * D) (h : Doc D a (s * V)) (hs : s = 1 ∨ s = -1) (v0 : 0 ≤ V) (v1 : 2 * V ≤ 3 * 1329227995784915872903807060280344576) (fx : Fnt x) (hx : iv x = iv a.1) (f : Nat → Int) (hf : Fx f V) (w : World) :
    Calls Try.prog 50 #[num x 0, fxv f, .int .i64 s] w fun z w' => ∃ K : Int, z = .returned (.int .i64 K) ∧ K ≤ -52 ∧ Below w.heap.size w w' := by
  obtain ⟨v, h1, h2, h3⟩ := h.out
  have hp : 0 < D := by rw [hD]; exact Int.pow_pos (by omega)
  refine (far_doc (a := (x, 0)) (v := iv a.1) (t := 68) hq (by omega) hD fx fnt_zero (by show iv x + iv 0 = _; rw [hx, iv_zero]; omega) hs rfl ?_ f hf w).mono ?_
  · apply Int.ofNat_lt.1
    have e : ((2 ^ (68 + q) : Nat) : Int) = 295147905179352825856 * D := by rw [Nat.pow_add, Int.natCast_mul, hD, Int.natCast_pow 2 q]; rfl
    rw [e]
    have hr := rnd_rel v
    rw [h1.neat] at hr
    have e53 : (2 : Int) ^ 53 = 9007199254740992 := by decide
    rw [e53] at hr
    have g0 : 0 ≤ V * D := Int.mul_nonneg v0 (by omega)
    have g1 : 2 * (V * D) ≤ 3 * (1329227995784915872903807060280344576 * D) := by
      have := Int.mul_le_mul_of_nonneg_right v1 (show 0 ≤ D by omega)
      rw [Int.mul_assoc, Int.mul_assoc] at this
      exact this
    rcases hs with rfl | rfl
    · rw [Int.one_mul] at h2 h3 ⊢
      generalize V * D = y at *
      clear hD e hSD v0 v1 hf hx h1
      omega
    · have e2 : -1 * V * D = -(V * D) := by rw [Int.mul_assoc]; omega
      rw [e2] at h2 h3 ⊢
      generalize V * D = y at *
      clear hD e e2 hSD v0 v1 hf hx h1
      omega
  · rintro z w' ⟨K, rfl, hK, hb⟩
    exact ⟨K, rfl, by omega, hb⟩

end Go.Proofs.Ytnpkblidlmkagaa

/- The walks of TrigExact and TrigTurns. -/
set_option linter.unusedSimpArgs false
set_option linter.unusedVariables false
namespace Go.Proofs.Ytnpkblidlmkagaa
open Go.RowKit Fl

/-- The boxes of TrigExact. -/
structure K4 (b c : Nat) (x1 x2 y1 y2 : Nat) (f g : Nat → Int) (w wx : World) : Prop where
  p : Two wx b (.float .f64 x1) (.float .f64 x2)
  q : Two wx (b + 1) (.float .f64 y1) (.float .f64 y2)
  r : RowI wx c 5 f
  s : RowI wx (c + 1) 5 g
  b : Below w.heap.size w wx
theorem K4.keep {b c x1 x2 y1 y2 : Nat} {f g : Nat → Int} {w w1 w2 : World} (h : K4 b c x1 x2 y1 y2 f g w w1) (hb : Below w1.heap.size w1 w2) : K4 b c x1 x2 y1 y2 f g w w2 :=
  ⟨h.p.keep hb, h.q.keep hb, h.r.keep hb, h.s.keep hb, h.b.trans (hb.mono h.b.size)⟩
theorem K4.facts {b c x1 x2 y1 y2 : Nat} {f g : Nat → Int} {w w1 : World} (h : K4 b c x1 x2 y1 y2 f g w w1) :
    (w1.cell? ⟨b, 0, none⟩ = some (.float .f64 x1) ∧ w1.cell? ⟨b, 1, none⟩ = some (.float .f64 x2) ∧ w1.cell? ⟨b + 1, 0, none⟩ = some (.float .f64 y1) ∧ w1.cell? ⟨b + 1, 1, none⟩ = some (.float .f64 y2)) ∧
    (w1.cell? ⟨c, 0, none⟩ = some (.int .i64 (f 0)) ∧ w1.cell? ⟨c, 1, none⟩ = some (.int .i64 (f 1)) ∧ w1.cell? ⟨c, 2, none⟩ = some (.int .i64 (f 2)) ∧ w1.cell? ⟨c, 3, none⟩ = some (.int .i64 (f 3)) ∧ w1.cell? ⟨c, 4, none⟩ = some (.int .i64 (f 4))) ∧
    (w1.cell? ⟨c + 1, 0, none⟩ = some (.int .i64 (g 0)) ∧ w1.cell? ⟨c + 1, 1, none⟩ = some (.int .i64 (g 1)) ∧ w1.cell? ⟨c + 1, 2, none⟩ = some (.int .i64 (g 2)) ∧ w1.cell? ⟨c + 1, 3, none⟩ = some (.int .i64 (g 3)) ∧ w1.cell? ⟨c + 1, 4, none⟩ = some (.int .i64 (g 4))) :=
  ⟨⟨h.p.1, h.p.2.1, h.q.1, h.q.2.1⟩, h.r.five.1, h.s.five.1⟩

theorem turn_bad (k n : Int) (w : World) (h : n < 1 ∨ 1099511627776 < n) : Calls Try.prog 47 #[.int .i64 k, .int .i64 n] w fun z w' => z = .returned (.tuple #[.float .f64 0, .float .f64 0]) ∧ Below w.heap.size w w' :=
  turn_of k n 0 0 0 0 0 0 w (fun w => exact_bad k n w h) (by decide +kernel) (by decide +kernel)

set_option maxRecDepth 100000 in
set_option maxHeartbeats 8000000 in
theorem exacts_all (k n : Int) (w : World) (hn : -9223372036854775808 ≤ n) (hn2 : n ≤ 9223372036854775807) :
    Calls Try.prog 10 #[.int .i64 k, .int .i64 n] w fun z w' => z = .returned (.bool true) ∧ Below w.heap.size w w' := by
  have PA := Lib.hid (fun w => parts5_any n 536870912 w hn hn2 (by omega) (by omega))
  obtain ⟨m, hm⟩ : ∃ m : Int, m = 1 + (if n < 0 then -(n + 1) else n) % 536870912 := ⟨_, rfl⟩
  rw [← hm] at PA
  have m1 : 1 ≤ m := by rw [hm]; split <;> omega
  have m2 : m ≤ 536870912 := by rw [hm]; split <;> omega
  clear hm
  obtain ⟨q, D, S, hq, hD, hS, hSD, hp⟩ := unit_D
  obtain ⟨dc, ds⟩ := ex_doc hS hSD hp k m m1 m2
  obtain ⟨sc, ss⟩ := ex_sml (k := k) m1 (show m ≤ 1099511627776 by omega)
  have EX := Lib.hid (fun w => exact_fn k m w m1 (by omega))
  have FI := Lib.hid (fun w => sc.fine w)
  have FJ := Lib.hid (fun w => ss.fine w)
  have TU := Lib.hid (fun w => refTurn_any k m w m1 m2)
  have FA := Lib.hid (fun f hf w => dc.size hq hD (docA_sign k m) f hf w)
  have FB := Lib.hid (fun f hf w => ds.size hq hD (docB_sign k m) f hf w)
  clear dc ds sc ss hq hD hS hSD hp
  obtain ⟨x, hx⟩ : ∃ x, x = exC k m := ⟨_, rfl⟩
  obtain ⟨y, hy⟩ : ∃ y, y = exS k m := ⟨_, rfl⟩
  obtain ⟨A, hA⟩ : ∃ A, A = docA k m := ⟨_, rfl⟩
  obtain ⟨B, hB⟩ : ∃ B, B = docB k m := ⟨_, rfl⟩
  rw [← hx, ← hy] at EX
  rw [← hx] at FI
  rw [← hy] at FJ
  rw [← hA, ← hB] at TU
  rw [← hx, ← hA] at FA
  rw [← hy, ← hB] at FB
  clear hx hy hA hB
  obtain ⟨x1, x2⟩ := x
  obtain ⟨y1, y2⟩ := y
  have z0 : (FloatKind.f64.format.order 0 0 == some Ordering.eq) = true := by kernel_rfl
  have z1 := neq_of_eq z0
  go_enter Try.func10, Try.ntmps10
  by_cases hbad : n < 1 ∨ 1099511627776 < n
  · have BE := Lib.hid (fun w => exact_bad k n w hbad)
    have BT := Lib.hid (fun w => turn_bad k n w hbad)
    rcases hbad with hb1 | hb1
    all_goals
      go_wp2_with fail
      refine (BE.out _).mono ?_
      rintro z w1 ⟨rfl, hb1⟩
      have B1 := Lib.hid ((hb1.alloc hb1.size (.cells #[.float .f64 0, .float .f64 0] 25)).alloc (hb1.alloc hb1.size (.cells #[.float .f64 0, .float .f64 0] 25)).size (.cells #[.float .f64 0, .float .f64 0] 25))
      have T5 := Lib.hid ((Two.new w1 (.float .f64 0) (.float .f64 0) 25).alloc (.cells #[.float .f64 0, .float .f64 0] 25))
      have T6 := Lib.hid (Two.new' (w := w1.alloc (.cells #[.float .f64 0, .float .f64 0] 25)) (b := w1.heap.size + 1) (by simp) (.float .f64 0) (.float .f64 0) 25)
      clear hb1
      go_wp2_with fail
      refine (BT.out _).mono ?_
      rintro z w2 ⟨rfl, hb2⟩
      have B2 := Lib.hid (B1.out.trans (hb2.mono B1.out.size))
      obtain ⟨a0, a1, _, _⟩ := T5.out.keep hb2
      obtain ⟨c0, c1, _, _⟩ := T6.out.keep hb2
      clear hb2 B1 T5 T6
      go_upto_region 6 with fail
      go_wp2_with fail
      refine (PA.out _).mono ?_
      rintro z w' ⟨rfl, rfl⟩
      go_wp2_with fail
      refine (EX.out _).mono ?_
      rintro z w1 ⟨rfl, hb1⟩
      have T1 := Lib.hid ((Two.new w1 (.float .f64 x1) (.float .f64 x2) 25).alloc (.cells #[.float .f64 y1, .float .f64 y2] 25))
      have T2 := Lib.hid (Two.new' (w := w1.alloc (.cells #[.float .f64 x1, .float .f64 x2] 25)) (b := w1.heap.size + 1) (by simp) (.float .f64 y1) (.float .f64 y2) 25)
      have b1 := B2.out.trans (hb1.mono B2.out.size)
      have B3 := Lib.hid ((b1.alloc b1.size (.cells #[.float .f64 x1, .float .f64 x2] 25)).alloc (b1.alloc b1.size (.cells #[.float .f64 x1, .float .f64 x2] 25)).size (.cells #[.float .f64 y1, .float .f64 y2] 25))
      clear hb1 b1 B2 PA EX
      go_wp2_with fail
      refine (TU.out _).mono ?_
      rintro z w2 ⟨f, g, rfl, hf, hg, hb2⟩
      have KK : Hid (K4 w1.heap.size w2.heap.size x1 x2 y1 y2 f g w ((w2.alloc (.cells #[.int .i64 (f 0), .int .i64 (f 1), .int .i64 (f 2), .int .i64 (f 3), .int .i64 (f 4)] 58)).alloc (.cells #[.int .i64 (g 0), .int .i64 (g 1), .int .i64 (g 2), .int .i64 (g 3), .int .i64 (g 4)] 58))) := Lib.hid ⟨((T1.out.keep hb2).alloc _).alloc _, ((T2.out.keep hb2).alloc _).alloc _, (row5_new w2 f 58).alloc _, by
          have := row5_new (w2.alloc (.cells #[.int .i64 (f 0), .int .i64 (f 1), .int .i64 (f 2), .int .i64 (f 3), .int .i64 (f 4)] 58)) g 58
          simpa using this, ((B3.out.trans (hb2.mono B3.out.size)).alloc (B3.out.trans (hb2.mono B3.out.size)).size _).alloc ((B3.out.trans (hb2.mono B3.out.size)).alloc (B3.out.trans (hb2.mono B3.out.size)).size (.cells #[.int .i64 (f 0), .int .i64 (f 1), .int .i64 (f 2), .int .i64 (f 3), .int .i64 (f 4)] 58)).size _⟩
      have NA := Lib.hid (fun w => FA.out f hf w)
      have NB := Lib.hid (fun w => FB.out g hg w)
      clear hb2 T1 T2 B3 hf hg TU FA FB
      go_wp2_with fail
      refine (wakes5_any _).mono ?_
      rintro z w3 ⟨rfl, hb⟩
      have K1 := Lib.hid (KK.out.keep hb)
      clear hb KK
      obtain ⟨⟨p0, p1, p2, p3⟩, ⟨q0, q1, q2, q3, q4⟩, r0, r1, r2, r3, r4⟩ := K1.out.facts
      go_wp2_with fail
      refine (FI.out _).mono ?_
      rintro z w4 ⟨rfl, hb⟩
      have K2 := Lib.hid (K1.out.keep hb)
      clear hb K1 p0 p1 p2 p3 q0 q1 q2 q3 q4 r0 r1 r2 r3 r4
      obtain ⟨⟨p0, p1, p2, p3⟩, ⟨q0, q1, q2, q3, q4⟩, r0, r1, r2, r3, r4⟩ := K2.out.facts
      go_wp2_with fail
      refine (FJ.out _).mono ?_
      rintro z w5 ⟨rfl, hb⟩
      have K3 := Lib.hid (K2.out.keep hb)
      clear hb K2 p0 p1 p2 p3 q0 q1 q2 q3 q4 r0 r1 r2 r3 r4
      obtain ⟨⟨p0, p1, p2, p3⟩, ⟨q0, q1, q2, q3, q4⟩, r0, r1, r2, r3, r4⟩ := K3.out.facts
      go_wp2_with fail
      refine (NA.out _).mono ?_
      rintro z w6 ⟨K, rfl, hK, hb⟩
      have K5 := Lib.hid (K3.out.keep hb)
      clear hb K3 p0 p1 p2 p3 q0 q1 q2 q3 q4 r0 r1 r2 r3 r4
      obtain ⟨⟨p0, p1, p2, p3⟩, ⟨q0, q1, q2, q3, q4⟩, r0, r1, r2, r3, r4⟩ := K5.out.facts
      go_wp2_with fail
      refine (NB.out _).mono ?_
      rintro z w7 ⟨L, rfl, hL, hb⟩
      go_wp2_with fail
      go_ret
      exact ⟨rfl, K5.out.b.trans (hb.mono K5.out.b.size)⟩
  · have hb2 : ¬ n < 1 := fun h => hbad (.inl h)
    have hb3 : ¬ 1099511627776 < n := fun h => hbad (.inr h)
    have B2 := Lib.hid (Below.refl w.heap.size w)
    clear hbad
    go_wp2_with fail
    refine (PA.out _).mono ?_
    rintro z w' ⟨rfl, rfl⟩
    go_wp2_with fail
    refine (EX.out _).mono ?_
    rintro z w1 ⟨rfl, hb1⟩
    have T1 := Lib.hid ((Two.new w1 (.float .f64 x1) (.float .f64 x2) 25).alloc (.cells #[.float .f64 y1, .float .f64 y2] 25))
    have T2 := Lib.hid (Two.new' (w := w1.alloc (.cells #[.float .f64 x1, .float .f64 x2] 25)) (b := w1.heap.size + 1) (by simp) (.float .f64 y1) (.float .f64 y2) 25)
    have b1 := B2.out.trans (hb1.mono B2.out.size)
    have B3 := Lib.hid ((b1.alloc b1.size (.cells #[.float .f64 x1, .float .f64 x2] 25)).alloc (b1.alloc b1.size (.cells #[.float .f64 x1, .float .f64 x2] 25)).size (.cells #[.float .f64 y1, .float .f64 y2] 25))
    clear hb1 b1 B2 PA EX
    go_wp2_with fail
    refine (TU.out _).mono ?_
    rintro z w2 ⟨f, g, rfl, hf, hg, hb2⟩
    have KK : Hid (K4 w1.heap.size w2.heap.size x1 x2 y1 y2 f g w ((w2.alloc (.cells #[.int .i64 (f 0), .int .i64 (f 1), .int .i64 (f 2), .int .i64 (f 3), .int .i64 (f 4)] 58)).alloc (.cells #[.int .i64 (g 0), .int .i64 (g 1), .int .i64 (g 2), .int .i64 (g 3), .int .i64 (g 4)] 58))) := Lib.hid ⟨((T1.out.keep hb2).alloc _).alloc _, ((T2.out.keep hb2).alloc _).alloc _, (row5_new w2 f 58).alloc _, by
        have := row5_new (w2.alloc (.cells #[.int .i64 (f 0), .int .i64 (f 1), .int .i64 (f 2), .int .i64 (f 3), .int .i64 (f 4)] 58)) g 58
        simpa using this, ((B3.out.trans (hb2.mono B3.out.size)).alloc (B3.out.trans (hb2.mono B3.out.size)).size _).alloc ((B3.out.trans (hb2.mono B3.out.size)).alloc (B3.out.trans (hb2.mono B3.out.size)).size (.cells #[.int .i64 (f 0), .int .i64 (f 1), .int .i64 (f 2), .int .i64 (f 3), .int .i64 (f 4)] 58)).size _⟩
    have NA := Lib.hid (fun w => FA.out f hf w)
    have NB := Lib.hid (fun w => FB.out g hg w)
    clear hb2 T1 T2 B3 hf hg TU FA FB
    go_wp2_with fail
    refine (wakes5_any _).mono ?_
    rintro z w3 ⟨rfl, hb⟩
    have K1 := Lib.hid (KK.out.keep hb)
    clear hb KK
    obtain ⟨⟨p0, p1, p2, p3⟩, ⟨q0, q1, q2, q3, q4⟩, r0, r1, r2, r3, r4⟩ := K1.out.facts
    go_wp2_with fail
    refine (FI.out _).mono ?_
    rintro z w4 ⟨rfl, hb⟩
    have K2 := Lib.hid (K1.out.keep hb)
    clear hb K1 p0 p1 p2 p3 q0 q1 q2 q3 q4 r0 r1 r2 r3 r4
    obtain ⟨⟨p0, p1, p2, p3⟩, ⟨q0, q1, q2, q3, q4⟩, r0, r1, r2, r3, r4⟩ := K2.out.facts
    go_wp2_with fail
    refine (FJ.out _).mono ?_
    rintro z w5 ⟨rfl, hb⟩
    have K3 := Lib.hid (K2.out.keep hb)
    clear hb K2 p0 p1 p2 p3 q0 q1 q2 q3 q4 r0 r1 r2 r3 r4
    obtain ⟨⟨p0, p1, p2, p3⟩, ⟨q0, q1, q2, q3, q4⟩, r0, r1, r2, r3, r4⟩ := K3.out.facts
    go_wp2_with fail
    refine (NA.out _).mono ?_
    rintro z w6 ⟨K, rfl, hK, hb⟩
    have K5 := Lib.hid (K3.out.keep hb)
    clear hb K3 p0 p1 p2 p3 q0 q1 q2 q3 q4 r0 r1 r2 r3 r4
    obtain ⟨⟨p0, p1, p2, p3⟩, ⟨q0, q1, q2, q3, q4⟩, r0, r1, r2, r3, r4⟩ := K5.out.facts
    go_wp2_with fail
    refine (NB.out _).mono ?_
    rintro z w7 ⟨L, rfl, hL, hb⟩
    go_wp2_with fail
    go_ret
    exact ⟨rfl, K5.out.b.trans (hb.mono K5.out.b.size)⟩

set_option maxRecDepth 100000 in
set_option maxHeartbeats 8000000 in
theorem turns_all (k n : Int) (w : World) (hn : -9223372036854775808 ≤ n) (hn2 : n ≤ 9223372036854775807) :
    Calls Try.prog 11 #[.int .i64 k, .int .i64 n] w fun z w' => z = .returned (.bool true) ∧ Below w.heap.size w w' := by
  have PA := Lib.hid (fun w => parts5_any n 536870912 w hn hn2 (by omega) (by omega))
  obtain ⟨m, hm⟩ : ∃ m : Int, m = 1 + (if n < 0 then -(n + 1) else n) % 536870912 := ⟨_, rfl⟩
  rw [← hm] at PA
  have m1 : 1 ≤ m := by rw [hm]; split <;> omega
  have m2 : m ≤ 536870912 := by rw [hm]; split <;> omega
  clear hm
  obtain ⟨q, D, S, hq, hD, hS, hSD, hp⟩ := unit_D
  obtain ⟨dc, ds⟩ := ex_doc hS hSD hp k m m1 m2
  obtain ⟨ct, fx, fy, vx, vy⟩ := turn_fn k m m1 (show m ≤ 1099511627776 by omega)
  obtain ⟨r1, r2⟩ := octR_bd k m m1
  obtain ⟨d1, d2⟩ := dCS_bd (octR k m) m r1 r2 m1
  have EC : 0 ≤ docC k m ∧ 2 * docC k m ≤ 3 * 1329227995784915872903807060280344576 := by unfold docC; split <;> assumption
  have ES : 0 ≤ docS k m ∧ 2 * docS k m ≤ 3 * 1329227995784915872903807060280344576 := by unfold docS; split <;> assumption
  have EX := Lib.hid ct
  have c1 := fun w => finite_any (tuC k m) w fx.1
  have c2 := fun w => finite_any (tuS k m) w fy.1
  rw [finB_fnt fx] at c1
  rw [finB_fnt fy] at c2
  have FI := Lib.hid c1
  have FJ := Lib.hid c2
  have TU := Lib.hid (fun w => refTurn_any k m w m1 m2)
  have FA := Lib.hid (fun f hf w => dc.sizeF hq hD hSD (docA_sign k m) EC.1 EC.2 fx vx f hf w)
  have FB := Lib.hid (fun f hf w => ds.sizeF hq hD hSD (docB_sign k m) ES.1 ES.2 fy vy f hf w)
  clear dc ds hq hD hS hSD hp ct c1 c2 fx fy vx vy d1 d2 EC ES r1 r2
  obtain ⟨x, hx⟩ : ∃ x, x = tuC k m := ⟨_, rfl⟩
  obtain ⟨y, hy⟩ : ∃ y, y = tuS k m := ⟨_, rfl⟩
  obtain ⟨A, hA⟩ : ∃ A, A = docA k m := ⟨_, rfl⟩
  obtain ⟨B, hB⟩ : ∃ B, B = docB k m := ⟨_, rfl⟩
  rw [← hx, ← hy] at EX
  rw [← hx] at FI
  rw [← hy] at FJ
  rw [← hA, ← hB] at TU
  rw [← hx, ← hA] at FA
  rw [← hy, ← hB] at FB
  clear hx hy hA hB
  go_enter Try.func11, Try.ntmps11
  go_wp2_with fail
  refine (PA.out _).mono ?_
  rintro z w' ⟨rfl, rfl⟩
  go_wp2_with fail
  refine (EX.out _).mono ?_
  rintro z w1 ⟨rfl, hb1⟩
  go_wp2_with fail
  refine (TU.out _).mono ?_
  rintro z w2 ⟨f, g, rfl, hf, hg, hb2⟩
  have R1 := Lib.hid ((row5_new w2 f 58).alloc (.cells #[.int .i64 (g 0), .int .i64 (g 1), .int .i64 (g 2), .int .i64 (g 3), .int .i64 (g 4)] 58))
  have R2 : Hid (RowI ((w2.alloc (.cells #[.int .i64 (f 0), .int .i64 (f 1), .int .i64 (f 2), .int .i64 (f 3), .int .i64 (f 4)] 58)).alloc (.cells #[.int .i64 (g 0), .int .i64 (g 1), .int .i64 (g 2), .int .i64 (g 3), .int .i64 (g 4)] 58)) (w2.heap.size + 1) 5 g) := Lib.hid (by
    have := row5_new (w2.alloc (.cells #[.int .i64 (f 0), .int .i64 (f 1), .int .i64 (f 2), .int .i64 (f 3), .int .i64 (f 4)] 58)) g 58
    simpa using this)
  have hb3 := hb1.trans (hb2.mono hb1.size)
  have B3 := Lib.hid ((hb3.alloc hb3.size (.cells #[.int .i64 (f 0), .int .i64 (f 1), .int .i64 (f 2), .int .i64 (f 3), .int .i64 (f 4)] 58)).alloc (hb3.alloc hb3.size (.cells #[.int .i64 (f 0), .int .i64 (f 1), .int .i64 (f 2), .int .i64 (f 3), .int .i64 (f 4)] 58)).size (.cells #[.int .i64 (g 0), .int .i64 (g 1), .int .i64 (g 2), .int .i64 (g 3), .int .i64 (g 4)] 58))
  have NA := Lib.hid (fun w => FA.out f hf w)
  have NB := Lib.hid (fun w => FB.out g hg w)
  clear hb1 hb2 hb3 hf hg PA EX TU FA FB
  go_wp2_with fail
  refine (wakes5_any _).mono ?_
  rintro z w3 ⟨rfl, hb⟩
  have S1 := Lib.hid (R1.out.keep hb)
  have S2 := Lib.hid (R2.out.keep hb)
  have B4 := Lib.hid (B3.out.trans (hb.mono B3.out.size))
  clear hb R1 R2 B3
  go_wp2_with fail
  refine (FI.out _).mono ?_
  rintro z w' ⟨rfl, rfl⟩
  go_wp2_with fail
  refine (FJ.out _).mono ?_
  rintro z w' ⟨rfl, rfl⟩
  obtain ⟨⟨p0, p1, p2, p3, p4⟩, _⟩ := S1.out.five
  go_wp2_with fail
  refine (NA.out _).mono ?_
  rintro z w4 ⟨K, rfl, hK, hb⟩
  have S3 := Lib.hid (S2.out.keep hb)
  have B5 := Lib.hid (B4.out.trans (hb.mono B4.out.size))
  clear hb S1 S2 B4 p0 p1 p2 p3 p4
  obtain ⟨⟨p0, p1, p2, p3, p4⟩, _⟩ := S3.out.five
  go_wp2_with fail
  refine (NB.out _).mono ?_
  rintro z w5 ⟨L, rfl, hL, hb⟩
  go_wp2_with fail
  go_ret
  exact ⟨rfl, B5.out.trans (hb.mono B5.out.size)⟩

end Go.Proofs.Ytnpkblidlmkagaa
