/- The walk of RunLinear. -/
import Derived.Test.YteaimnemobnknaaE4
import Derived.Test.YteaimnemobnknaaZ2
set_option linter.unusedSimpArgs false
set_option linter.unusedVariables false
namespace Go.Proofs.Yteaimnemobnknaa
open Go.RowKit Go.Lib

theorem smallQ_gt : ∀ (k o q0 : Nat), 1000 < smallQ k o q0 ∨ smallQ k o q0 = q0 + k * o
  | 0, o, q0 => .inr (by unfold smallQ; omega)
  | k + 1, o, q0 => by
    unfold smallQ
    split
    · rename_i h
      exact .inl h.1
    · rcases smallQ_gt k o (q0 + o) with h | h
      · exact .inl h
      · refine .inr ?_
        rw [h, Nat.succ_mul]
        omega
theorem smallF_gt {o : Nat} (o1 : 1 ≤ o) (h : (smallF o).1 ≠ 0) : 1000 < (smallF o).1 := by
  unfold smallF at h ⊢
  split at h
  · split at h
    · exact absurd rfl h
    · rename_i h1 h2
      rw [if_pos h1, if_neg h2]
      show 1000 < smallQ 3000 o (o + 1)
      rcases smallQ_gt 3000 o (o + 1) with h3 | h3 <;> omega
  · exact absurd rfl h
/-- A field for two plans. -/
theorem plans_field {k1 k2 r1 r2 : Int} {m : Nat} {q1 q2 : Fo} (hm : m ≤ 512) (h1 : checkE k1 m r1 q1 m = 0) (h2 : checkE k2 m r2 q2 m = 0) (h : (ordsF (fieldF k1 m r1 q1) (fieldF k2 m r2 q2)).2 = true) :
    PlanF (ordsF (fieldF k1 m r1 q1) (fieldF k2 m r2 q2)).1.1 (ordsF (fieldF k1 m r1 q1) (fieldF k2 m r2 q2)).1.2.1 (ordsF (fieldF k1 m r1 q1) (fieldF k2 m r2 q2)).1.2.2 k1 m r1 q1 ∧
    PlanF (ordsF (fieldF k1 m r1 q1) (fieldF k2 m r2 q2)).1.1 (ordsF (fieldF k1 m r1 q1) (fieldF k2 m r2 q2)).1.2.1 (ordsF (fieldF k1 m r1 q1) (fieldF k2 m r2 q2)).1.2.2 k2 m r2 q2 ∧ 1000 < (ordsF (fieldF k1 m r1 q1) (fieldF k2 m r2 q2)).1.1 := by
  unfold ordsF at h ⊢
  by_cases hb : (fieldF k1 m r1 q1).2 = true ∧ (fieldF k2 m r2 q2).2 = true
  · rw [if_pos hb] at h ⊢
    obtain ⟨a, ha, a1, a2, ea, na⟩ := fieldF_ok hb.1
    obtain ⟨b, hb', b1, b2, eb, nb⟩ := fieldF_ok hb.2
    rw [ea, eb, (smallF_ok a1 a2 na).2, (smallF_ok b1 b2 nb).2] at h ⊢
    by_cases hl : (lcmF a b 268435456).2 = true
    · rw [if_pos hl] at h ⊢
      obtain ⟨l1, l2, l3, l4⟩ := lcmF_le a1 b1 hl
      have hne := of_decide_eq_true h
      obtain ⟨f1, f2⟩ := smallF_ok l1 l2 hne
      refine ⟨⟨f1, h1, hm, ?_⟩, ⟨f1, h2, hm, ?_⟩, smallF_gt l1 hne⟩
      · exact fun x hx => (show rootN x.1 x.2.1 ∣ (smallF _).2.2 from by rw [f2]; exact Nat.dvd_trans (ordR_dvd ha x hx) l3)
      · exact fun x hx => (show rootN x.1 x.2.1 ∣ (smallF _).2.2 from by rw [f2]; exact Nat.dvd_trans (ordR_dvd hb' x hx) l4)
    · rw [if_neg hl] at h
      cases h
  · rw [if_neg hb] at h
    cases h
def ySeven (Q m : Nat) (x : Nat → Int) : Nat → Int := fun i => x ((3 * i + 1) % m) * 7 % (Q : Int)
def fiveSum (Q : Nat) (x y : Nat → Int) : Nat → Int := fun i => (5 * x i % (Q : Int) + y i) % (Q : Int)
theorem mod_in {Q : Nat} (q1 : 1 ≤ Q) (f : Nat → Int) : InQ Q (fun i => f i % (Q : Int)) := fun i => ⟨Int.emod_nonneg _ (by omega), Int.emod_lt_of_pos _ (by omega)⟩
theorem rd_linear {Q V O : Nat} {kind : Int} {N : Nat} {r : Int} {q : Fo} (P : PlanF Q V O kind N r q) (x y : Nat → Int) (j : Nat) :
    ((rdF Q V O N 1 (fiveSum Q x y) j : Nat) : Int) = (5 * ((rdF Q V O N 1 x j : Nat) : Int) % (Q : Int) + ((rdF Q V O N 1 y j : Nat) : Int)) % (Q : Int) := by
  have hq0 : NeZero Q := ⟨by have := P.fo.pr.1; omega⟩
  have hq1 := P.fo.pr.1
  have hlt := rdF_lt (v := V) (o := O) (n := N) P.fo.pr.1 1 (fiveSum Q x y) j
  refine hq_inj (by omega) (by omega) (Int.emod_nonneg _ (by omega)) (Int.emod_lt_of_pos _ (by omega)) ?_
  rw [rdF_dft P.fo.pr P.fo.od P.fo.nq P.n1 P.dvd (.inl rfl), hq_mod, hq_add, hq_mod, hq_mul, rdF_dft P.fo.pr P.fo.od P.fo.nq P.n1 P.dvd (.inl rfl), rdF_dft P.fo.pr P.fo.od P.fo.nq P.n1 P.dvd (.inl rfl)]
  unfold dft
  rw [← sumF_left, ← sumF_add]
  refine sumF_congr fun k _ => ?_
  unfold fiveSum
  dsimp only
  rw [hq_mod, hq_add, hq_mod, hq_mul]
  grind
/-- A row as it is filled. -/
def fillU (k : Nat) (F : Nat → Int) : Nat → Int := fun i => if i < k then F i else 0
theorem fill_next {w : World} {b n k : Nat} {F : Nat → Int} (h : Row w b n (updT (fillU k F) k (F k))) : Row w b n (fillU (k + 1) F) := h.congr fun i hi => by
  unfold updT fillU
  by_cases h1 : i = k
  · subst h1; rw [if_pos rfl, if_pos (by omega)]
  · rw [if_neg h1]
    by_cases h2 : i < k
    · rw [if_pos h2, if_pos (by omega)]
    · rw [if_neg h2, if_neg (by omega)]
theorem fill_zero {w : World} {b n : Nat} (F : Nat → Int) (h : Row w b n (fun _ => 0)) : Row w b n (fillU 0 F) := h.congr fun i _ => by unfold fillU; rw [if_neg (by omega)]
theorem fill_full {w : World} {b n : Nat} {F : Nat → Int} (h : Row w b n (fillU n F)) : Row w b n F := h.congr fun i hi => by unfold fillU; rw [if_pos hi]

set_option maxRecDepth 100000 in
set_option maxHeartbeats 16000000 in
theorem Linear_any (a0 : Int) (b0 : -9223372036854775808 ≤ a0) (b1 : a0 ≤ 9223372036854775807) (A1 : Option Addr) (n1 c1 : Nat) (f1 : Nat → Int) (A2 : Option Addr) (n2 c2 : Nat) (f2 : Nat → Int) (Al : Option Addr) (nl cl : Nat) (l : Nat → Int) (w : World)
    (hI1 : IntsAt w A1 n1 f1) (hn1 : n1 ≤ 1125899906842624) (hI2 : IntsAt w A2 n2 f2) (hn2 : n2 ≤ 1125899906842624) (hL : IntsAt w Al nl l) (hR : Rng l) (hnl : nl ≤ 1125899906842624) :
    Calls Try.prog 5 #[.int .i64 a0, .agg #[.slice A1 n1 c1, .slice A2 n2 c2], .slice Al nl cl] w (Ret w (.bool true)) := by
  have HI1 := Lib.hid hI1
  have HI2 := Lib.hid hI2
  have HL := Lib.hid hL
  have HR := Lib.hid hR
  obtain ⟨W0, hW0⟩ : ∃ W0, W0 = w.alloc (.cells #[.slice A1 n1 c1, .slice A2 n2 c2] 53) := ⟨_, rfl⟩
  have hb0 : Below w.heap.size w W0 := by rw [hW0]; exact (Below.refl _ w).alloc (Nat.le_refl _) _
  have c0 : W0.cell? ⟨w.heap.size, 0, none⟩ = some (.slice A1 n1 c1) := by rw [hW0]; go_simp
  have c1' : W0.cell? ⟨w.heap.size, 1, none⟩ = some (.slice A2 n2 c2) := by rw [hW0]; go_simp
  have HB0 := Lib.hid hb0
  clear hI1 hI2 hL hR hb0
  go_enter Try.func5, Try.ntmps5
  go_upto_region 1 with (fail)
  rw [← hW0]
  clear hW0
  refine wp_region_S (fun w' => w'.cell? ⟨w.heap.size, 0, none⟩ = some (.slice A1 n1 c1) ∧ w'.cell? ⟨w.heap.size, 1, none⟩ = some (.slice A2 n2 c2)) 5 (by kernel_rfl) ?_
  have hS0 := (⟨c0, c1'⟩ : (fun w' => w'.cell? ⟨w.heap.size, 0, none⟩ = some (.slice A1 n1 c1) ∧ w'.cell? ⟨w.heap.size, 1, none⟩ = some (.slice A2 n2 c2)) W0.drew)
  refine wpAnyS_take (i := 0) (v := ?_) (by kernel_rfl) rfl (fun _ _ _ h => h) rfl hS0 (fun w hSw => by (try dsimp only at hSw); go_simp; try with_reducible rfl) ?_
  try simp only [List.getElem_toArray, List.getElem_cons_zero, List.getElem_cons_succ, Act.put, List.setIfInBounds_toArray, List.set_cons_zero, List.set_cons_succ]
  refine wpAnyS_take (i := 1) (v := ?_) (by kernel_rfl) rfl (fun _ _ _ h => h) rfl hS0 (fun w hSw => by (try dsimp only at hSw); go_simp; try with_reducible rfl) ?_
  try simp only [List.getElem_toArray, List.getElem_cons_zero, List.getElem_cons_succ, Act.put, List.setIfInBounds_toArray, List.set_cons_zero, List.set_cons_succ]
  refine wpAnyS_take (i := 2) (v := ?_) (by kernel_rfl) rfl (fun _ _ _ h => h) rfl hS0 (fun w hSw => by (try dsimp only at hSw); go_simp; try with_reducible rfl) ?_
  try simp only [List.getElem_toArray, List.getElem_cons_zero, List.getElem_cons_succ, Act.put, List.setIfInBounds_toArray, List.set_cons_zero, List.set_cons_succ]
  refine wpAnyS_take (i := 3) (v := ?_) (by kernel_rfl) rfl (fun _ _ _ h => h) rfl hS0 (fun w hSw => by (try dsimp only at hSw); go_simp; try with_reducible rfl) ?_
  try simp only [List.getElem_toArray, List.getElem_cons_zero, List.getElem_cons_succ, Act.put, List.setIfInBounds_toArray, List.set_cons_zero, List.set_cons_succ]
  refine wpAnyS_take (i := 4) (v := ?_) (by kernel_rfl) rfl (fun _ _ _ h => h) rfl hS0 (fun w hSw => by (try dsimp only at hSw); go_simp; try with_reducible rfl) ?_
  try simp only [List.getElem_toArray, List.getElem_cons_zero, List.getElem_cons_succ, Act.put, List.setIfInBounds_toArray, List.set_cons_zero, List.set_cons_succ]
  refine wpAnyS_end 1 5 (by kernel_rfl) (by decide) rfl ?_
  simp only [List.toList_toArray, List.drop_succ_cons, List.drop_zero]
  clear hS0 c0 c1'
  go_upto_region 2 with (fail)
  have BB1 : Hid (Below w.heap.size w W0.drew) := Lib.hid (HB0.out.trans ((Below.refl _ W0).drew.mono HB0.out.size))
  clear HB0
  generalize W0.drew = w1 at *
  go_cut [0] from 33 to 36 (fun s0 wx => ∃ m : Nat, 1 ≤ m ∧ m ≤ 120 ∧ s0 = .int .i64 m ∧ w1 = wx)
  case first =>
    have h0 := Int.emod_nonneg a0 (show (120 : Int) ≠ 0 by omega)
    have h1 := Int.emod_lt_of_pos a0 (show (0 : Int) < 120 by omega)
    by_cases hneg : a0 ≤ 0
    · go_wp2_with fail
      go_meet
      exact ⟨1, by omega, by omega, rfl, rfl⟩
    · have ht : a0.tmod 120 = a0 % 120 := Int.tmod_eq_emod_of_nonneg (by omega)
      obtain ⟨x, hx⟩ : ∃ x, a0 % 120 = x := ⟨_, rfl⟩
      rw [hx] at h0 h1 ht
      clear hx
      go_wp2_with fail
      go_meet
      exact ⟨(1 + x).toNat, by omega, by omega, by rw [Int.toNat_of_nonneg (by omega)], rfl⟩
  case rest =>
  obtain ⟨m, hm1, hm2, rfl, rfl⟩ := hcut
  apply_assumption
  have HPO1 := Lib.hid (planOf18 m hm1 (by omega) A1 n1 c1 f1 w1 (HI1.out.keep BB1.out) hn1)
  go_wp2_with fail
  refine HPO1.out.mono ?_
  rintro z w2 ⟨k1, r1, q1, Bk1, ck1, rfl, hq, hkd, hb⟩
  have HQ1 := Lib.hid (show q1.count ≤ 549755813888 by omega)
  have BB2 : Hid (Below w.heap.size w w2) := Lib.hid (BB1.out.trans (hb.mono BB1.out.size))
  have K12 := Lib.hid hkd
  clear HPO1 hb hkd hq
  go_upto_region 4 with (fail)
  obtain ⟨w3, hw⟩ : ∃ w3, w3 = w2.alloc (.cells #[.int .i64 k1, .int .i64 m, .int .i64 r1, .slice Bk1 q1.len ck1] 26) := ⟨_, rfl⟩
  have hb : Below w2.heap.size w2 w3 := by rw [hw]; exact (Below.refl _ w2).alloc (Nat.le_refl _) _
  have hp := PlBox.new w2 k1 m r1 Bk1 q1.len ck1 26
  rw [← hw] at hp ⊢
  obtain ⟨bP, hbP⟩ : ∃ bP, w2.heap.size = bP := ⟨_, rfl⟩
  rw [hbP] at hp ⊢
  have P13 := Lib.hid hp
  have K13 := Lib.hid (K12.out.below hb)
  have BB3 : Hid (Below w.heap.size w w3) := Lib.hid (BB2.out.trans (hb.mono BB2.out.size))
  clear hw hb hp hbP
  have HPO2 := Lib.hid (planOf18 m hm1 (by omega) A2 n2 c2 f2 w3 (HI2.out.keep BB3.out) hn2)
  go_wp2_with fail
  refine HPO2.out.mono ?_
  rintro z w4 ⟨k2, r2, q2, Bk2, ck2, rfl, hq, hkd, hb⟩
  have HQ2 := Lib.hid (show q2.count ≤ 549755813888 by omega)
  have BB4 : Hid (Below w.heap.size w w4) := Lib.hid (BB3.out.trans (hb.mono BB3.out.size))
  have K24 := Lib.hid hkd
  have P14 := Lib.hid (P13.out.below hb)
  have K14 := Lib.hid (K13.out.below hb)
  clear HPO2 hb hkd hq
  go_upto_region 5 with (fail)
  obtain ⟨w5, hw⟩ : ∃ w5, w5 = w4.alloc (.cells #[.int .i64 k2, .int .i64 m, .int .i64 r2, .slice Bk2 q2.len ck2] 26) := ⟨_, rfl⟩
  have hb : Below w4.heap.size w4 w5 := by rw [hw]; exact (Below.refl _ w4).alloc (Nat.le_refl _) _
  have hp := PlBox.new w4 k2 m r2 Bk2 q2.len ck2 26
  rw [← hw] at hp ⊢
  obtain ⟨bQ, hbP⟩ : ∃ bP, w4.heap.size = bP := ⟨_, rfl⟩
  rw [hbP] at hp ⊢
  have P25 := Lib.hid hp
  have K25 := Lib.hid (K24.out.below hb)
  have BB5 : Hid (Below w.heap.size w w5) := Lib.hid (BB4.out.trans (hb.mono BB4.out.size))
  have P15 := Lib.hid (P14.out.below hb)
  have K15 := Lib.hid (K14.out.below hb)
  clear hw hb hp hbP
  have HWK := Lib.hid (fun w => wakes18 w)
  clear BB1 BB2 BB3 BB4 K12 K13 K14 K24 P13 P14
  by_cases he1 : checkE k1 m r1 q1 m = 0
  case neg =>
    have hdt : decide (checkE k1 m r1 q1 m = 0) = false := decide_eq_false he1
    rw [hdt]
    clear hdt he1
    obtain ⟨ee, hee⟩ : ∃ ee, decide (checkE k2 m r2 q2 m = 0) = ee := ⟨_, rfl⟩
    rw [hee]
    clear hee
    go_wp2_with fail
    refine (HWK.out _).mono ?_
    rintro z w6 ⟨rfl, hb⟩
    have BB6 : Hid (Below w.heap.size w w6) := Lib.hid (BB5.out.trans (hb.mono BB5.out.size))
    clear hb
    go_wp2_with fail
    refine (HWK.out _).mono ?_
    rintro z w7 ⟨rfl, hb⟩
    have BB7 : Hid (Below w.heap.size w w7) := Lib.hid (BB6.out.trans (hb.mono BB6.out.size))
    clear hb
    go_wp2
    go_ret
    exact ⟨rfl, BB7.out⟩
  by_cases he2 : checkE k2 m r2 q2 m = 0
  case neg =>
    have hdt : decide (checkE k2 m r2 q2 m = 0) = false := decide_eq_false he2
    have hdt1 : decide (checkE k1 m r1 q1 m = 0) = true := decide_eq_true he1
    rw [hdt, hdt1]
    clear hdt hdt1 he2 he1
    go_wp2_with fail
    refine (HWK.out _).mono ?_
    rintro z w6 ⟨rfl, hb⟩
    have BB6 : Hid (Below w.heap.size w w6) := Lib.hid (BB5.out.trans (hb.mono BB5.out.size))
    clear hb
    go_wp2_with fail
    refine (HWK.out _).mono ?_
    rintro z w7 ⟨rfl, hb⟩
    have BB7 : Hid (Below w.heap.size w w7) := Lib.hid (BB6.out.trans (hb.mono BB6.out.size))
    clear hb
    go_wp2
    go_ret
    exact ⟨rfl, BB7.out⟩
  have hdt : decide (checkE k2 m r2 q2 m = 0) = true := decide_eq_true he2
  have hdt1 : decide (checkE k1 m r1 q1 m = 0) = true := decide_eq_true he1
  rw [hdt, hdt1]
  have HE1 := Lib.hid he1
  have HE2 := Lib.hid he2
  clear hdt hdt1 he2 he1
  go_wp2_with fail
  refine (HWK.out _).mono ?_
  rintro z w6 ⟨rfl, hb⟩
  have BB6 : Hid (Below w.heap.size w w6) := Lib.hid (BB5.out.trans (hb.mono BB5.out.size))
  have P16 := Lib.hid (P15.out.below hb)
  have P26 := Lib.hid (P25.out.below hb)
  have K16 := Lib.hid (K15.out.below hb)
  have K26 := Lib.hid (K25.out.below hb)
  clear hb BB5 P15 P25 K15 K25 HWK
  have HPR1 := Lib.hid (fun w h => (planRef_all18 (.cons k1 m r1 q1 .nil)).1 HQ1.out w Bk1 ck1 h)
  have HPR2 := Lib.hid (fun w h => (planRef_all18 (.cons k2 m r2 q2 .nil)).1 HQ2.out w Bk2 ck2 h)
  have HORD := Lib.hid (fun w D1 D2 d1 d2 h1 h2 => orders_any k1 m r1 q1 k2 m r2 q2 HQ1.out HQ2.out w D1 D2 d1 d2 h1 h2)
  have HPF := Lib.hid (fun h => plans_field (by omega) HE1.out HE2.out h)
  obtain ⟨RR, hRR⟩ : ∃ RR, ordsF (fieldF k1 m r1 q1) (fieldF k2 m r2 q2) = RR := ⟨_, rfl⟩
  rw [hRR] at HORD HPF
  obtain ⟨⟨Q, V, O⟩, ok⟩ := RR
  dsimp only at HORD HPF
  clear hRR
  go_upto_region 7 with (fail)
  go_cut [13, 14] from 60 to 67 (fun s13 s14 wx => ∃ bR, s13 = .pointer (some ⟨bR, 0, none⟩) ∧ s14 = .bool ok ∧ Hid (Tri wx bR Q V O) ∧ Hid (Below w6.heap.size w6 wx))
  case first =>
    refine wp_region_S (fun w' => w'.cell? ⟨bP, 0, none⟩ = some (.int .i64 k1) ∧ w'.cell? ⟨bP, 1, none⟩ = some (.int .i64 m) ∧ w'.cell? ⟨bP, 2, none⟩ = some (.int .i64 r1) ∧ w'.cell? ⟨bP, 3, none⟩ = some (.slice Bk1 q1.len ck1) ∧ w'.cell? ⟨bQ, 0, none⟩ = some (.int .i64 k2) ∧ w'.cell? ⟨bQ, 1, none⟩ = some (.int .i64 m) ∧ w'.cell? ⟨bQ, 2, none⟩ = some (.int .i64 r2) ∧ w'.cell? ⟨bQ, 3, none⟩ = some (.slice Bk2 q2.len ck2)) 10 (by kernel_rfl) ?_
    have hbd := (Below.refl w6.heap.size w6).drew
    have P1d := Lib.hid (P16.out.below hbd)
    have P2d := Lib.hid (P26.out.below hbd)
    have K1d := Lib.hid (K16.out.below hbd)
    have K2d := Lib.hid (K26.out.below hbd)
    have BBd := Lib.hid hbd
    generalize w6.drew = wd at *
    have hS0 := (⟨P1d.out.1, P1d.out.2.1, P1d.out.2.2.1, P1d.out.2.2.2, P2d.out.1, P2d.out.2.1, P2d.out.2.2.1, P2d.out.2.2.2⟩ : (fun w' => w'.cell? ⟨bP, 0, none⟩ = some (.int .i64 k1) ∧ w'.cell? ⟨bP, 1, none⟩ = some (.int .i64 m) ∧ w'.cell? ⟨bP, 2, none⟩ = some (.int .i64 r1) ∧ w'.cell? ⟨bP, 3, none⟩ = some (.slice Bk1 q1.len ck1) ∧ w'.cell? ⟨bQ, 0, none⟩ = some (.int .i64 k2) ∧ w'.cell? ⟨bQ, 1, none⟩ = some (.int .i64 m) ∧ w'.cell? ⟨bQ, 2, none⟩ = some (.int .i64 r2) ∧ w'.cell? ⟨bQ, 3, none⟩ = some (.slice Bk2 q2.len ck2)) wd)
    refine wpAnyS_take (i := 0) (v := ?_) (by kernel_rfl) rfl (fun _ _ _ h => h) rfl hS0 (fun w hSw => by (try dsimp only at hSw); go_simp; try with_reducible rfl) ?_
    try simp only [List.getElem_toArray, List.getElem_cons_zero, List.getElem_cons_succ, Act.put, List.setIfInBounds_toArray, List.set_cons_zero, List.set_cons_succ]
    refine wpAnyS_take (i := 2) (v := ?_) (by kernel_rfl) rfl (fun _ _ _ h => h) rfl hS0 (fun w hSw => by (try dsimp only at hSw); go_simp; try with_reducible rfl) ?_
    try simp only [List.getElem_toArray, List.getElem_cons_zero, List.getElem_cons_succ, Act.put, List.setIfInBounds_toArray, List.set_cons_zero, List.set_cons_succ]
    refine wpAnyS_pair (i := 1) (j := 8) (by kernel_rfl) rfl rfl rfl rfl (fun K hK => ?_) (fun K hK => ?_)
    · go_simp
      refine (HPR1.out _ K1d.out).mono ?_
      rintro z wx1 ⟨D1, d1, rfl, hky, hb⟩
      have P1x1 := Lib.hid (P1d.out.below hb)
      have P2x1 := Lib.hid (P2d.out.below hb)
      have K1x1 := Lib.hid (K1d.out.below hb)
      have K2x1 := Lib.hid (K2d.out.below hb)
      have BBx1 : Hid (Below w6.heap.size w6 wx1) := Lib.hid (BBd.out.trans (hb.mono BBd.out.size))
      have RK1x1 := Lib.hid hky.kids
      clear hky hb
      have hSx1 := (⟨P1x1.out.1, P1x1.out.2.1, P1x1.out.2.2.1, P1x1.out.2.2.2, P2x1.out.1, P2x1.out.2.1, P2x1.out.2.2.1, P2x1.out.2.2.2⟩ : (fun w' => w'.cell? ⟨bP, 0, none⟩ = some (.int .i64 k1) ∧ w'.cell? ⟨bP, 1, none⟩ = some (.int .i64 m) ∧ w'.cell? ⟨bP, 2, none⟩ = some (.int .i64 r1) ∧ w'.cell? ⟨bP, 3, none⟩ = some (.slice Bk1 q1.len ck1) ∧ w'.cell? ⟨bQ, 0, none⟩ = some (.int .i64 k2) ∧ w'.cell? ⟨bQ, 1, none⟩ = some (.int .i64 m) ∧ w'.cell? ⟨bQ, 2, none⟩ = some (.int .i64 r2) ∧ w'.cell? ⟨bQ, 3, none⟩ = some (.slice Bk2 q2.len ck2)) wx1)
      refine hK.out _ _ (fun _ => hSx1) ?_
      clear hK K
      try simp only [List.getElem_toArray, List.getElem_cons_zero, List.getElem_cons_succ, Act.put, List.setIfInBounds_toArray, List.set_cons_zero, List.set_cons_succ]
      refine wpAnyS_pair (i := 3) (j := 8) (by kernel_rfl) rfl rfl rfl rfl (fun K hK => ?_) (fun K hK => ?_)
      · go_simp
        refine (HPR2.out _ K2x1.out).mono ?_
        rintro z wx2 ⟨D2, d2, rfl, hky, hb⟩
        have P1x2 := Lib.hid (P1x1.out.below hb)
        have P2x2 := Lib.hid (P2x1.out.below hb)
        have K1x2 := Lib.hid (K1x1.out.below hb)
        have K2x2 := Lib.hid (K2x1.out.below hb)
        have BBx2 : Hid (Below w6.heap.size w6 wx2) := Lib.hid (BBx1.out.trans (hb.mono BBx1.out.size))
        have RK1x2 := Lib.hid (RK1x1.out.below hb)
        have RK2x2 := Lib.hid hky.kids
        clear hky hb
        have hSx2 := (⟨P1x2.out.1, P1x2.out.2.1, P1x2.out.2.2.1, P1x2.out.2.2.2, P2x2.out.1, P2x2.out.2.1, P2x2.out.2.2.1, P2x2.out.2.2.2⟩ : (fun w' => w'.cell? ⟨bP, 0, none⟩ = some (.int .i64 k1) ∧ w'.cell? ⟨bP, 1, none⟩ = some (.int .i64 m) ∧ w'.cell? ⟨bP, 2, none⟩ = some (.int .i64 r1) ∧ w'.cell? ⟨bP, 3, none⟩ = some (.slice Bk1 q1.len ck1) ∧ w'.cell? ⟨bQ, 0, none⟩ = some (.int .i64 k2) ∧ w'.cell? ⟨bQ, 1, none⟩ = some (.int .i64 m) ∧ w'.cell? ⟨bQ, 2, none⟩ = some (.int .i64 r2) ∧ w'.cell? ⟨bQ, 3, none⟩ = some (.slice Bk2 q2.len ck2)) wx2)
        refine hK.out _ _ (fun _ => hSx2) ?_
        clear hK K
        try simp only [List.getElem_toArray, List.getElem_cons_zero, List.getElem_cons_succ, Act.put, List.setIfInBounds_toArray, List.set_cons_zero, List.set_cons_succ]
        refine wpAnyS_pair (i := 4) (j := 8) (by kernel_rfl) rfl rfl rfl rfl (fun K hK => ?_) (fun K hK => ?_)
        · go_simp
          refine (HORD.out _ _ _ _ _ RK1x2.out RK2x2.out).mono ?_
          rintro z wx3 ⟨rfl, hb⟩
          have P1x3 := Lib.hid (P1x2.out.below hb)
          have P2x3 := Lib.hid (P2x2.out.below hb)
          have K1x3 := Lib.hid (K1x2.out.below hb)
          have K2x3 := Lib.hid (K2x2.out.below hb)
          have BBx3 : Hid (Below w6.heap.size w6 wx3) := Lib.hid (BBx2.out.trans (hb.mono BBx2.out.size))
          have RK1x3 := Lib.hid (RK1x2.out.below hb)
          have RK2x3 := Lib.hid (RK2x2.out.below hb)
          clear hb
          have hSx3 := (⟨P1x3.out.1, P1x3.out.2.1, P1x3.out.2.2.1, P1x3.out.2.2.2, P2x3.out.1, P2x3.out.2.1, P2x3.out.2.2.1, P2x3.out.2.2.2⟩ : (fun w' => w'.cell? ⟨bP, 0, none⟩ = some (.int .i64 k1) ∧ w'.cell? ⟨bP, 1, none⟩ = some (.int .i64 m) ∧ w'.cell? ⟨bP, 2, none⟩ = some (.int .i64 r1) ∧ w'.cell? ⟨bP, 3, none⟩ = some (.slice Bk1 q1.len ck1) ∧ w'.cell? ⟨bQ, 0, none⟩ = some (.int .i64 k2) ∧ w'.cell? ⟨bQ, 1, none⟩ = some (.int .i64 m) ∧ w'.cell? ⟨bQ, 2, none⟩ = some (.int .i64 r2) ∧ w'.cell? ⟨bQ, 3, none⟩ = some (.slice Bk2 q2.len ck2)) wx3)
          refine hK.out _ _ (fun _ => hSx3) ?_
          clear hK K
          try simp only [List.getElem_toArray, List.getElem_cons_zero, List.getElem_cons_succ, Act.put, List.setIfInBounds_toArray, List.set_cons_zero, List.set_cons_succ]
          refine wpAnyS_take (i := 5) (v := ?_) (by kernel_rfl) rfl (fun _ _ _ h => h) rfl hSx3 (fun w hSw => by (try dsimp only at hSw); go_simp; try with_reducible rfl) ?_
          try simp only [List.getElem_toArray, List.getElem_cons_zero, List.getElem_cons_succ, Act.put, List.setIfInBounds_toArray, List.set_cons_zero, List.set_cons_succ]
          refine wpAnyS_take (i := 6) (v := ?_) (by kernel_rfl) rfl (fun _ _ _ h => h) rfl hSx3 (fun w hSw => by (try dsimp only at hSw); go_simp; try with_reducible rfl) ?_
          try simp only [List.getElem_toArray, List.getElem_cons_zero, List.getElem_cons_succ, Act.put, List.setIfInBounds_toArray, List.set_cons_zero, List.set_cons_succ]
          refine wpAnyS_take (i := 7) (v := ?_) (by kernel_rfl) rfl (fun _ _ _ h => h) rfl hSx3 (fun w hSw => by (try dsimp only at hSw); go_simp; try with_reducible rfl) ?_
          try simp only [List.getElem_toArray, List.getElem_cons_zero, List.getElem_cons_succ, Act.put, List.setIfInBounds_toArray, List.set_cons_zero, List.set_cons_succ]
          refine wpAnyS_one (i := 8) (by kernel_rfl) rfl rfl (fun K hK => ?_)
          go_simp
          obtain ⟨wx4, hW⟩ : ∃ wx4, wx4 = wx3.alloc (.cells #[.int .i64 0, .int .i64 0, .int .i64 0] 35) := ⟨_, rfl⟩
          have hb : Below wx3.heap.size wx3 wx4 := by rw [hW]; exact (Below.refl _ wx3).alloc (Nat.le_refl _) _
          have hrb := RB.new wx3 35
          rw [← hW] at hrb ⊢
          have hl1 := cell_lt P1x3.out.1
          have hl2 := cell_lt P2x3.out.1
          have hl3 := BBx3.out.size
          obtain ⟨bR, hbR⟩ : ∃ bR, wx3.heap.size = bR := ⟨_, rfl⟩
          have P1x4 := Lib.hid (P1x3.out.below hb)
          have P2x4 := Lib.hid (P2x3.out.below hb)
          have K1x4 := Lib.hid (K1x3.out.below hb)
          have K2x4 := Lib.hid (K2x3.out.below hb)
          have BBx4 : Hid (Below w6.heap.size w6 wx4) := Lib.hid (BBx3.out.trans (hb.mono BBx3.out.size))
          have RK1x4 := Lib.hid (RK1x3.out.below hb)
          have RK2x4 := Lib.hid (RK2x3.out.below hb)
          rw [hbR] at hrb hl1 hl2 hl3 ⊢
          have RBx4 := Lib.hid hrb
          have HNE : Hid (bR ≠ bP ∧ bR ≠ bQ ∧ w6.heap.size ≤ bR) := Lib.hid (by omega)
          clear hW hb hrb hbR hl1 hl2 hl3
          have hSx4 := (⟨P1x4.out.1, P1x4.out.2.1, P1x4.out.2.2.1, P1x4.out.2.2.2, P2x4.out.1, P2x4.out.2.1, P2x4.out.2.2.1, P2x4.out.2.2.2⟩ : (fun w' => w'.cell? ⟨bP, 0, none⟩ = some (.int .i64 k1) ∧ w'.cell? ⟨bP, 1, none⟩ = some (.int .i64 m) ∧ w'.cell? ⟨bP, 2, none⟩ = some (.int .i64 r1) ∧ w'.cell? ⟨bP, 3, none⟩ = some (.slice Bk1 q1.len ck1) ∧ w'.cell? ⟨bQ, 0, none⟩ = some (.int .i64 k2) ∧ w'.cell? ⟨bQ, 1, none⟩ = some (.int .i64 m) ∧ w'.cell? ⟨bQ, 2, none⟩ = some (.int .i64 r2) ∧ w'.cell? ⟨bQ, 3, none⟩ = some (.slice Bk2 q2.len ck2)) wx4)
          refine hK.out _ _ (fun _ => hSx4) ?_
          clear hK K
          try simp only [List.getElem_toArray, List.getElem_cons_zero, List.getElem_cons_succ, Act.put, List.setIfInBounds_toArray, List.set_cons_zero, List.set_cons_succ]
          obtain ⟨⟨t0, t1, t2⟩, hz, hlb⟩ := RBx4.out
          have hz0 := hz 0 (by omega)
          have hz1 := hz 1 (by omega)
          have hz2 := hz 2 (by omega)
          have HST : Hid (Tri (((wx4.setCell ⟨bR, 0, none⟩ (.int .i64 Q)).setCell ⟨bR, 1, none⟩ (.int .i64 V)).setCell ⟨bR, 2, none⟩ (.int .i64 O)) bR Q V O) := Lib.hid (tri_set ⟨t0, t1, t2⟩ Q V O)
          have HP1 := Lib.hid (((P1x4.out.other (b' := bR) (o := 0) (.int .i64 Q) (fun e => HNE.out.1 e.symm)).other (b' := bR) (o := 1) (.int .i64 V) (fun e => HNE.out.1 e.symm)).other (b' := bR) (o := 2) (.int .i64 O) (fun e => HNE.out.1 e.symm))
          have HP2 := Lib.hid (((P2x4.out.other (b' := bR) (o := 0) (.int .i64 Q) (fun e => HNE.out.2.1 e.symm)).other (b' := bR) (o := 1) (.int .i64 V) (fun e => HNE.out.2.1 e.symm)).other (b' := bR) (o := 2) (.int .i64 O) (fun e => HNE.out.2.1 e.symm))
          have HBF := Lib.hid (below_three BBx4.out HNE.out.2.2 (.int .i64 Q) (.int .i64 V) (.int .i64 O))
          refine wpAnyS_one (i := 9) (by kernel_rfl) rfl rfl (fun K hK => ?_)
          go_simp
          refine hK.out _ _ (fun _ => ⟨HP1.out.1, HP1.out.2.1, HP1.out.2.2.1, HP1.out.2.2.2, HP2.out.1, HP2.out.2.1, HP2.out.2.2.1, HP2.out.2.2.2⟩) ?_
          clear hK K
          try simp only [List.getElem_toArray, List.getElem_cons_zero, List.getElem_cons_succ, Act.put, List.setIfInBounds_toArray, List.set_cons_zero, List.set_cons_succ]
          refine wpAnyS_end 1 10 (by kernel_rfl) (by decide) rfl ?_
          simp only [List.toList_toArray, List.drop_succ_cons, List.drop_zero]
          go_wp2_with fail
          go_meet
          exact ⟨bR, rfl, rfl, HST, HBF⟩
        · go_simp
          obtain ⟨wx5, hW⟩ : ∃ wx5, wx5 = wx2.alloc (.cells #[.int .i64 0, .int .i64 0, .int .i64 0] 35) := ⟨_, rfl⟩
          have hb : Below wx2.heap.size wx2 wx5 := by rw [hW]; exact (Below.refl _ wx2).alloc (Nat.le_refl _) _
          have hrb := RB.new wx2 35
          rw [← hW] at hrb ⊢
          have hl1 := cell_lt P1x2.out.1
          have hl2 := cell_lt P2x2.out.1
          have hl3 := BBx2.out.size
          obtain ⟨bR, hbR⟩ : ∃ bR, wx2.heap.size = bR := ⟨_, rfl⟩
          have P1x5 := Lib.hid (P1x2.out.below hb)
          have P2x5 := Lib.hid (P2x2.out.below hb)
          have K1x5 := Lib.hid (K1x2.out.below hb)
          have K2x5 := Lib.hid (K2x2.out.below hb)
          have BBx5 : Hid (Below w6.heap.size w6 wx5) := Lib.hid (BBx2.out.trans (hb.mono BBx2.out.size))
          have RK1x5 := Lib.hid (RK1x2.out.below hb)
          have RK2x5 := Lib.hid (RK2x2.out.below hb)
          rw [hbR] at hrb hl1 hl2 hl3 ⊢
          have RBx5 := Lib.hid hrb
          have HNE : Hid (bR ≠ bP ∧ bR ≠ bQ ∧ w6.heap.size ≤ bR) := Lib.hid (by omega)
          clear hW hb hrb hbR hl1 hl2 hl3
          have hSx5 := (⟨P1x5.out.1, P1x5.out.2.1, P1x5.out.2.2.1, P1x5.out.2.2.2, P2x5.out.1, P2x5.out.2.1, P2x5.out.2.2.1, P2x5.out.2.2.2⟩ : (fun w' => w'.cell? ⟨bP, 0, none⟩ = some (.int .i64 k1) ∧ w'.cell? ⟨bP, 1, none⟩ = some (.int .i64 m) ∧ w'.cell? ⟨bP, 2, none⟩ = some (.int .i64 r1) ∧ w'.cell? ⟨bP, 3, none⟩ = some (.slice Bk1 q1.len ck1) ∧ w'.cell? ⟨bQ, 0, none⟩ = some (.int .i64 k2) ∧ w'.cell? ⟨bQ, 1, none⟩ = some (.int .i64 m) ∧ w'.cell? ⟨bQ, 2, none⟩ = some (.int .i64 r2) ∧ w'.cell? ⟨bQ, 3, none⟩ = some (.slice Bk2 q2.len ck2)) wx5)
          refine hK.out _ _ (fun _ => hSx5) ?_
          clear hK K
          try simp only [List.getElem_toArray, List.getElem_cons_zero, List.getElem_cons_succ, Act.put, List.setIfInBounds_toArray, List.set_cons_zero, List.set_cons_succ]
          refine wpAnyS_one (i := 4) (by kernel_rfl) rfl rfl (fun K hK => ?_)
          go_simp
          refine (HORD.out _ _ _ _ _ RK1x5.out RK2x5.out).mono ?_
          rintro z wx6 ⟨rfl, hb⟩
          have P1x6 := Lib.hid (P1x5.out.below hb)
          have P2x6 := Lib.hid (P2x5.out.below hb)
          have K1x6 := Lib.hid (K1x5.out.below hb)
          have K2x6 := Lib.hid (K2x5.out.below hb)
          have BBx6 : Hid (Below w6.heap.size w6 wx6) := Lib.hid (BBx5.out.trans (hb.mono BBx5.out.size))
          have RK1x6 := Lib.hid (RK1x5.out.below hb)
          have RK2x6 := Lib.hid (RK2x5.out.below hb)
          have RBx6 := Lib.hid (RBx5.out.below hb)
          clear hb
          have hSx6 := (⟨P1x6.out.1, P1x6.out.2.1, P1x6.out.2.2.1, P1x6.out.2.2.2, P2x6.out.1, P2x6.out.2.1, P2x6.out.2.2.1, P2x6.out.2.2.2⟩ : (fun w' => w'.cell? ⟨bP, 0, none⟩ = some (.int .i64 k1) ∧ w'.cell? ⟨bP, 1, none⟩ = some (.int .i64 m) ∧ w'.cell? ⟨bP, 2, none⟩ = some (.int .i64 r1) ∧ w'.cell? ⟨bP, 3, none⟩ = some (.slice Bk1 q1.len ck1) ∧ w'.cell? ⟨bQ, 0, none⟩ = some (.int .i64 k2) ∧ w'.cell? ⟨bQ, 1, none⟩ = some (.int .i64 m) ∧ w'.cell? ⟨bQ, 2, none⟩ = some (.int .i64 r2) ∧ w'.cell? ⟨bQ, 3, none⟩ = some (.slice Bk2 q2.len ck2)) wx6)
          refine hK.out _ _ (fun _ => hSx6) ?_
          clear hK K
          try simp only [List.getElem_toArray, List.getElem_cons_zero, List.getElem_cons_succ, Act.put, List.setIfInBounds_toArray, List.set_cons_zero, List.set_cons_succ]
          refine wpAnyS_take (i := 5) (v := ?_) (by kernel_rfl) rfl (fun _ _ _ h => h) rfl hSx6 (fun w hSw => by (try dsimp only at hSw); go_simp; try with_reducible rfl) ?_
          try simp only [List.getElem_toArray, List.getElem_cons_zero, List.getElem_cons_succ, Act.put, List.setIfInBounds_toArray, List.set_cons_zero, List.set_cons_succ]
          refine wpAnyS_take (i := 6) (v := ?_) (by kernel_rfl) rfl (fun _ _ _ h => h) rfl hSx6 (fun w hSw => by (try dsimp only at hSw); go_simp; try with_reducible rfl) ?_
          try simp only [List.getElem_toArray, List.getElem_cons_zero, List.getElem_cons_succ, Act.put, List.setIfInBounds_toArray, List.set_cons_zero, List.set_cons_succ]
          refine wpAnyS_take (i := 7) (v := ?_) (by kernel_rfl) rfl (fun _ _ _ h => h) rfl hSx6 (fun w hSw => by (try dsimp only at hSw); go_simp; try with_reducible rfl) ?_
          try simp only [List.getElem_toArray, List.getElem_cons_zero, List.getElem_cons_succ, Act.put, List.setIfInBounds_toArray, List.set_cons_zero, List.set_cons_succ]
          obtain ⟨⟨t0, t1, t2⟩, hz, hlb⟩ := RBx6.out
          have hz0 := hz 0 (by omega)
          have hz1 := hz 1 (by omega)
          have hz2 := hz 2 (by omega)
          have HST : Hid (Tri (((wx6.setCell ⟨bR, 0, none⟩ (.int .i64 Q)).setCell ⟨bR, 1, none⟩ (.int .i64 V)).setCell ⟨bR, 2, none⟩ (.int .i64 O)) bR Q V O) := Lib.hid (tri_set ⟨t0, t1, t2⟩ Q V O)
          have HP1 := Lib.hid (((P1x6.out.other (b' := bR) (o := 0) (.int .i64 Q) (fun e => HNE.out.1 e.symm)).other (b' := bR) (o := 1) (.int .i64 V) (fun e => HNE.out.1 e.symm)).other (b' := bR) (o := 2) (.int .i64 O) (fun e => HNE.out.1 e.symm))
          have HP2 := Lib.hid (((P2x6.out.other (b' := bR) (o := 0) (.int .i64 Q) (fun e => HNE.out.2.1 e.symm)).other (b' := bR) (o := 1) (.int .i64 V) (fun e => HNE.out.2.1 e.symm)).other (b' := bR) (o := 2) (.int .i64 O) (fun e => HNE.out.2.1 e.symm))
          have HBF := Lib.hid (below_three BBx6.out HNE.out.2.2 (.int .i64 Q) (.int .i64 V) (.int .i64 O))
          refine wpAnyS_one (i := 9) (by kernel_rfl) rfl rfl (fun K hK => ?_)
          go_simp
          refine hK.out _ _ (fun _ => ⟨HP1.out.1, HP1.out.2.1, HP1.out.2.2.1, HP1.out.2.2.2, HP2.out.1, HP2.out.2.1, HP2.out.2.2.1, HP2.out.2.2.2⟩) ?_
          clear hK K
          try simp only [List.getElem_toArray, List.getElem_cons_zero, List.getElem_cons_succ, Act.put, List.setIfInBounds_toArray, List.set_cons_zero, List.set_cons_succ]
          refine wpAnyS_end 1 10 (by kernel_rfl) (by decide) rfl ?_
          simp only [List.toList_toArray, List.drop_succ_cons, List.drop_zero]
          go_wp2_with fail
          go_meet
          exact ⟨bR, rfl, rfl, HST, HBF⟩
      · go_simp
        obtain ⟨wx7, hW⟩ : ∃ wx7, wx7 = wx1.alloc (.cells #[.int .i64 0, .int .i64 0, .int .i64 0] 35) := ⟨_, rfl⟩
        have hb : Below wx1.heap.size wx1 wx7 := by rw [hW]; exact (Below.refl _ wx1).alloc (Nat.le_refl _) _
        have hrb := RB.new wx1 35
        rw [← hW] at hrb ⊢
        have hl1 := cell_lt P1x1.out.1
        have hl2 := cell_lt P2x1.out.1
        have hl3 := BBx1.out.size
        obtain ⟨bR, hbR⟩ : ∃ bR, wx1.heap.size = bR := ⟨_, rfl⟩
        have P1x7 := Lib.hid (P1x1.out.below hb)
        have P2x7 := Lib.hid (P2x1.out.below hb)
        have K1x7 := Lib.hid (K1x1.out.below hb)
        have K2x7 := Lib.hid (K2x1.out.below hb)
        have BBx7 : Hid (Below w6.heap.size w6 wx7) := Lib.hid (BBx1.out.trans (hb.mono BBx1.out.size))
        have RK1x7 := Lib.hid (RK1x1.out.below hb)
        rw [hbR] at hrb hl1 hl2 hl3 ⊢
        have RBx7 := Lib.hid hrb
        have HNE : Hid (bR ≠ bP ∧ bR ≠ bQ ∧ w6.heap.size ≤ bR) := Lib.hid (by omega)
        clear hW hb hrb hbR hl1 hl2 hl3
        have hSx7 := (⟨P1x7.out.1, P1x7.out.2.1, P1x7.out.2.2.1, P1x7.out.2.2.2, P2x7.out.1, P2x7.out.2.1, P2x7.out.2.2.1, P2x7.out.2.2.2⟩ : (fun w' => w'.cell? ⟨bP, 0, none⟩ = some (.int .i64 k1) ∧ w'.cell? ⟨bP, 1, none⟩ = some (.int .i64 m) ∧ w'.cell? ⟨bP, 2, none⟩ = some (.int .i64 r1) ∧ w'.cell? ⟨bP, 3, none⟩ = some (.slice Bk1 q1.len ck1) ∧ w'.cell? ⟨bQ, 0, none⟩ = some (.int .i64 k2) ∧ w'.cell? ⟨bQ, 1, none⟩ = some (.int .i64 m) ∧ w'.cell? ⟨bQ, 2, none⟩ = some (.int .i64 r2) ∧ w'.cell? ⟨bQ, 3, none⟩ = some (.slice Bk2 q2.len ck2)) wx7)
        refine hK.out _ _ (fun _ => hSx7) ?_
        clear hK K
        try simp only [List.getElem_toArray, List.getElem_cons_zero, List.getElem_cons_succ, Act.put, List.setIfInBounds_toArray, List.set_cons_zero, List.set_cons_succ]
        refine wpAnyS_one (i := 3) (by kernel_rfl) rfl rfl (fun K hK => ?_)
        go_simp
        refine (HPR2.out _ K2x7.out).mono ?_
        rintro z wx8 ⟨D2, d2, rfl, hky, hb⟩
        have P1x8 := Lib.hid (P1x7.out.below hb)
        have P2x8 := Lib.hid (P2x7.out.below hb)
        have K1x8 := Lib.hid (K1x7.out.below hb)
        have K2x8 := Lib.hid (K2x7.out.below hb)
        have BBx8 : Hid (Below w6.heap.size w6 wx8) := Lib.hid (BBx7.out.trans (hb.mono BBx7.out.size))
        have RK1x8 := Lib.hid (RK1x7.out.below hb)
        have RBx8 := Lib.hid (RBx7.out.below hb)
        have RK2x8 := Lib.hid hky.kids
        clear hky hb
        have hSx8 := (⟨P1x8.out.1, P1x8.out.2.1, P1x8.out.2.2.1, P1x8.out.2.2.2, P2x8.out.1, P2x8.out.2.1, P2x8.out.2.2.1, P2x8.out.2.2.2⟩ : (fun w' => w'.cell? ⟨bP, 0, none⟩ = some (.int .i64 k1) ∧ w'.cell? ⟨bP, 1, none⟩ = some (.int .i64 m) ∧ w'.cell? ⟨bP, 2, none⟩ = some (.int .i64 r1) ∧ w'.cell? ⟨bP, 3, none⟩ = some (.slice Bk1 q1.len ck1) ∧ w'.cell? ⟨bQ, 0, none⟩ = some (.int .i64 k2) ∧ w'.cell? ⟨bQ, 1, none⟩ = some (.int .i64 m) ∧ w'.cell? ⟨bQ, 2, none⟩ = some (.int .i64 r2) ∧ w'.cell? ⟨bQ, 3, none⟩ = some (.slice Bk2 q2.len ck2)) wx8)
        refine hK.out _ _ (fun _ => hSx8) ?_
        clear hK K
        try simp only [List.getElem_toArray, List.getElem_cons_zero, List.getElem_cons_succ, Act.put, List.setIfInBounds_toArray, List.set_cons_zero, List.set_cons_succ]
        refine wpAnyS_one (i := 4) (by kernel_rfl) rfl rfl (fun K hK => ?_)
        go_simp
        refine (HORD.out _ _ _ _ _ RK1x8.out RK2x8.out).mono ?_
        rintro z wx9 ⟨rfl, hb⟩
        have P1x9 := Lib.hid (P1x8.out.below hb)
        have P2x9 := Lib.hid (P2x8.out.below hb)
        have K1x9 := Lib.hid (K1x8.out.below hb)
        have K2x9 := Lib.hid (K2x8.out.below hb)
        have BBx9 : Hid (Below w6.heap.size w6 wx9) := Lib.hid (BBx8.out.trans (hb.mono BBx8.out.size))
        have RK1x9 := Lib.hid (RK1x8.out.below hb)
        have RBx9 := Lib.hid (RBx8.out.below hb)
        have RK2x9 := Lib.hid (RK2x8.out.below hb)
        clear hb
        have hSx9 := (⟨P1x9.out.1, P1x9.out.2.1, P1x9.out.2.2.1, P1x9.out.2.2.2, P2x9.out.1, P2x9.out.2.1, P2x9.out.2.2.1, P2x9.out.2.2.2⟩ : (fun w' => w'.cell? ⟨bP, 0, none⟩ = some (.int .i64 k1) ∧ w'.cell? ⟨bP, 1, none⟩ = some (.int .i64 m) ∧ w'.cell? ⟨bP, 2, none⟩ = some (.int .i64 r1) ∧ w'.cell? ⟨bP, 3, none⟩ = some (.slice Bk1 q1.len ck1) ∧ w'.cell? ⟨bQ, 0, none⟩ = some (.int .i64 k2) ∧ w'.cell? ⟨bQ, 1, none⟩ = some (.int .i64 m) ∧ w'.cell? ⟨bQ, 2, none⟩ = some (.int .i64 r2) ∧ w'.cell? ⟨bQ, 3, none⟩ = some (.slice Bk2 q2.len ck2)) wx9)
        refine hK.out _ _ (fun _ => hSx9) ?_
        clear hK K
        try simp only [List.getElem_toArray, List.getElem_cons_zero, List.getElem_cons_succ, Act.put, List.setIfInBounds_toArray, List.set_cons_zero, List.set_cons_succ]
        refine wpAnyS_take (i := 5) (v := ?_) (by kernel_rfl) rfl (fun _ _ _ h => h) rfl hSx9 (fun w hSw => by (try dsimp only at hSw); go_simp; try with_reducible rfl) ?_
        try simp only [List.getElem_toArray, List.getElem_cons_zero, List.getElem_cons_succ, Act.put, List.setIfInBounds_toArray, List.set_cons_zero, List.set_cons_succ]
        refine wpAnyS_take (i := 6) (v := ?_) (by kernel_rfl) rfl (fun _ _ _ h => h) rfl hSx9 (fun w hSw => by (try dsimp only at hSw); go_simp; try with_reducible rfl) ?_
        try simp only [List.getElem_toArray, List.getElem_cons_zero, List.getElem_cons_succ, Act.put, List.setIfInBounds_toArray, List.set_cons_zero, List.set_cons_succ]
        refine wpAnyS_take (i := 7) (v := ?_) (by kernel_rfl) rfl (fun _ _ _ h => h) rfl hSx9 (fun w hSw => by (try dsimp only at hSw); go_simp; try with_reducible rfl) ?_
        try simp only [List.getElem_toArray, List.getElem_cons_zero, List.getElem_cons_succ, Act.put, List.setIfInBounds_toArray, List.set_cons_zero, List.set_cons_succ]
        obtain ⟨⟨t0, t1, t2⟩, hz, hlb⟩ := RBx9.out
        have hz0 := hz 0 (by omega)
        have hz1 := hz 1 (by omega)
        have hz2 := hz 2 (by omega)
        have HST : Hid (Tri (((wx9.setCell ⟨bR, 0, none⟩ (.int .i64 Q)).setCell ⟨bR, 1, none⟩ (.int .i64 V)).setCell ⟨bR, 2, none⟩ (.int .i64 O)) bR Q V O) := Lib.hid (tri_set ⟨t0, t1, t2⟩ Q V O)
        have HP1 := Lib.hid (((P1x9.out.other (b' := bR) (o := 0) (.int .i64 Q) (fun e => HNE.out.1 e.symm)).other (b' := bR) (o := 1) (.int .i64 V) (fun e => HNE.out.1 e.symm)).other (b' := bR) (o := 2) (.int .i64 O) (fun e => HNE.out.1 e.symm))
        have HP2 := Lib.hid (((P2x9.out.other (b' := bR) (o := 0) (.int .i64 Q) (fun e => HNE.out.2.1 e.symm)).other (b' := bR) (o := 1) (.int .i64 V) (fun e => HNE.out.2.1 e.symm)).other (b' := bR) (o := 2) (.int .i64 O) (fun e => HNE.out.2.1 e.symm))
        have HBF := Lib.hid (below_three BBx9.out HNE.out.2.2 (.int .i64 Q) (.int .i64 V) (.int .i64 O))
        refine wpAnyS_one (i := 9) (by kernel_rfl) rfl rfl (fun K hK => ?_)
        go_simp
        refine hK.out _ _ (fun _ => ⟨HP1.out.1, HP1.out.2.1, HP1.out.2.2.1, HP1.out.2.2.2, HP2.out.1, HP2.out.2.1, HP2.out.2.2.1, HP2.out.2.2.2⟩) ?_
        clear hK K
        try simp only [List.getElem_toArray, List.getElem_cons_zero, List.getElem_cons_succ, Act.put, List.setIfInBounds_toArray, List.set_cons_zero, List.set_cons_succ]
        refine wpAnyS_end 1 10 (by kernel_rfl) (by decide) rfl ?_
        simp only [List.toList_toArray, List.drop_succ_cons, List.drop_zero]
        go_wp2_with fail
        go_meet
        exact ⟨bR, rfl, rfl, HST, HBF⟩
    · go_simp
      obtain ⟨wx10, hW⟩ : ∃ wx10, wx10 = wd.alloc (.cells #[.int .i64 0, .int .i64 0, .int .i64 0] 35) := ⟨_, rfl⟩
      have hb : Below wd.heap.size wd wx10 := by rw [hW]; exact (Below.refl _ wd).alloc (Nat.le_refl _) _
      have hrb := RB.new wd 35
      rw [← hW] at hrb ⊢
      have hl1 := cell_lt P1d.out.1
      have hl2 := cell_lt P2d.out.1
      have hl3 := BBd.out.size
      obtain ⟨bR, hbR⟩ : ∃ bR, wd.heap.size = bR := ⟨_, rfl⟩
      have P1x10 := Lib.hid (P1d.out.below hb)
      have P2x10 := Lib.hid (P2d.out.below hb)
      have K1x10 := Lib.hid (K1d.out.below hb)
      have K2x10 := Lib.hid (K2d.out.below hb)
      have BBx10 : Hid (Below w6.heap.size w6 wx10) := Lib.hid (BBd.out.trans (hb.mono BBd.out.size))
      rw [hbR] at hrb hl1 hl2 hl3 ⊢
      have RBx10 := Lib.hid hrb
      have HNE : Hid (bR ≠ bP ∧ bR ≠ bQ ∧ w6.heap.size ≤ bR) := Lib.hid (by omega)
      clear hW hb hrb hbR hl1 hl2 hl3
      have hSx10 := (⟨P1x10.out.1, P1x10.out.2.1, P1x10.out.2.2.1, P1x10.out.2.2.2, P2x10.out.1, P2x10.out.2.1, P2x10.out.2.2.1, P2x10.out.2.2.2⟩ : (fun w' => w'.cell? ⟨bP, 0, none⟩ = some (.int .i64 k1) ∧ w'.cell? ⟨bP, 1, none⟩ = some (.int .i64 m) ∧ w'.cell? ⟨bP, 2, none⟩ = some (.int .i64 r1) ∧ w'.cell? ⟨bP, 3, none⟩ = some (.slice Bk1 q1.len ck1) ∧ w'.cell? ⟨bQ, 0, none⟩ = some (.int .i64 k2) ∧ w'.cell? ⟨bQ, 1, none⟩ = some (.int .i64 m) ∧ w'.cell? ⟨bQ, 2, none⟩ = some (.int .i64 r2) ∧ w'.cell? ⟨bQ, 3, none⟩ = some (.slice Bk2 q2.len ck2)) wx10)
      refine hK.out _ _ (fun _ => hSx10) ?_
      clear hK K
      try simp only [List.getElem_toArray, List.getElem_cons_zero, List.getElem_cons_succ, Act.put, List.setIfInBounds_toArray, List.set_cons_zero, List.set_cons_succ]
      refine wpAnyS_one (i := 1) (by kernel_rfl) rfl rfl (fun K hK => ?_)
      go_simp
      refine (HPR1.out _ K1x10.out).mono ?_
      rintro z wx11 ⟨D1, d1, rfl, hky, hb⟩
      have P1x11 := Lib.hid (P1x10.out.below hb)
      have P2x11 := Lib.hid (P2x10.out.below hb)
      have K1x11 := Lib.hid (K1x10.out.below hb)
      have K2x11 := Lib.hid (K2x10.out.below hb)
      have BBx11 : Hid (Below w6.heap.size w6 wx11) := Lib.hid (BBx10.out.trans (hb.mono BBx10.out.size))
      have RBx11 := Lib.hid (RBx10.out.below hb)
      have RK1x11 := Lib.hid hky.kids
      clear hky hb
      have hSx11 := (⟨P1x11.out.1, P1x11.out.2.1, P1x11.out.2.2.1, P1x11.out.2.2.2, P2x11.out.1, P2x11.out.2.1, P2x11.out.2.2.1, P2x11.out.2.2.2⟩ : (fun w' => w'.cell? ⟨bP, 0, none⟩ = some (.int .i64 k1) ∧ w'.cell? ⟨bP, 1, none⟩ = some (.int .i64 m) ∧ w'.cell? ⟨bP, 2, none⟩ = some (.int .i64 r1) ∧ w'.cell? ⟨bP, 3, none⟩ = some (.slice Bk1 q1.len ck1) ∧ w'.cell? ⟨bQ, 0, none⟩ = some (.int .i64 k2) ∧ w'.cell? ⟨bQ, 1, none⟩ = some (.int .i64 m) ∧ w'.cell? ⟨bQ, 2, none⟩ = some (.int .i64 r2) ∧ w'.cell? ⟨bQ, 3, none⟩ = some (.slice Bk2 q2.len ck2)) wx11)
      refine hK.out _ _ (fun _ => hSx11) ?_
      clear hK K
      try simp only [List.getElem_toArray, List.getElem_cons_zero, List.getElem_cons_succ, Act.put, List.setIfInBounds_toArray, List.set_cons_zero, List.set_cons_succ]
      refine wpAnyS_one (i := 3) (by kernel_rfl) rfl rfl (fun K hK => ?_)
      go_simp
      refine (HPR2.out _ K2x11.out).mono ?_
      rintro z wx12 ⟨D2, d2, rfl, hky, hb⟩
      have P1x12 := Lib.hid (P1x11.out.below hb)
      have P2x12 := Lib.hid (P2x11.out.below hb)
      have K1x12 := Lib.hid (K1x11.out.below hb)
      have K2x12 := Lib.hid (K2x11.out.below hb)
      have BBx12 : Hid (Below w6.heap.size w6 wx12) := Lib.hid (BBx11.out.trans (hb.mono BBx11.out.size))
      have RBx12 := Lib.hid (RBx11.out.below hb)
      have RK1x12 := Lib.hid (RK1x11.out.below hb)
      have RK2x12 := Lib.hid hky.kids
      clear hky hb
      have hSx12 := (⟨P1x12.out.1, P1x12.out.2.1, P1x12.out.2.2.1, P1x12.out.2.2.2, P2x12.out.1, P2x12.out.2.1, P2x12.out.2.2.1, P2x12.out.2.2.2⟩ : (fun w' => w'.cell? ⟨bP, 0, none⟩ = some (.int .i64 k1) ∧ w'.cell? ⟨bP, 1, none⟩ = some (.int .i64 m) ∧ w'.cell? ⟨bP, 2, none⟩ = some (.int .i64 r1) ∧ w'.cell? ⟨bP, 3, none⟩ = some (.slice Bk1 q1.len ck1) ∧ w'.cell? ⟨bQ, 0, none⟩ = some (.int .i64 k2) ∧ w'.cell? ⟨bQ, 1, none⟩ = some (.int .i64 m) ∧ w'.cell? ⟨bQ, 2, none⟩ = some (.int .i64 r2) ∧ w'.cell? ⟨bQ, 3, none⟩ = some (.slice Bk2 q2.len ck2)) wx12)
      refine hK.out _ _ (fun _ => hSx12) ?_
      clear hK K
      try simp only [List.getElem_toArray, List.getElem_cons_zero, List.getElem_cons_succ, Act.put, List.setIfInBounds_toArray, List.set_cons_zero, List.set_cons_succ]
      refine wpAnyS_one (i := 4) (by kernel_rfl) rfl rfl (fun K hK => ?_)
      go_simp
      refine (HORD.out _ _ _ _ _ RK1x12.out RK2x12.out).mono ?_
      rintro z wx13 ⟨rfl, hb⟩
      have P1x13 := Lib.hid (P1x12.out.below hb)
      have P2x13 := Lib.hid (P2x12.out.below hb)
      have K1x13 := Lib.hid (K1x12.out.below hb)
      have K2x13 := Lib.hid (K2x12.out.below hb)
      have BBx13 : Hid (Below w6.heap.size w6 wx13) := Lib.hid (BBx12.out.trans (hb.mono BBx12.out.size))
      have RBx13 := Lib.hid (RBx12.out.below hb)
      have RK1x13 := Lib.hid (RK1x12.out.below hb)
      have RK2x13 := Lib.hid (RK2x12.out.below hb)
      clear hb
      have hSx13 := (⟨P1x13.out.1, P1x13.out.2.1, P1x13.out.2.2.1, P1x13.out.2.2.2, P2x13.out.1, P2x13.out.2.1, P2x13.out.2.2.1, P2x13.out.2.2.2⟩ : (fun w' => w'.cell? ⟨bP, 0, none⟩ = some (.int .i64 k1) ∧ w'.cell? ⟨bP, 1, none⟩ = some (.int .i64 m) ∧ w'.cell? ⟨bP, 2, none⟩ = some (.int .i64 r1) ∧ w'.cell? ⟨bP, 3, none⟩ = some (.slice Bk1 q1.len ck1) ∧ w'.cell? ⟨bQ, 0, none⟩ = some (.int .i64 k2) ∧ w'.cell? ⟨bQ, 1, none⟩ = some (.int .i64 m) ∧ w'.cell? ⟨bQ, 2, none⟩ = some (.int .i64 r2) ∧ w'.cell? ⟨bQ, 3, none⟩ = some (.slice Bk2 q2.len ck2)) wx13)
      refine hK.out _ _ (fun _ => hSx13) ?_
      clear hK K
      try simp only [List.getElem_toArray, List.getElem_cons_zero, List.getElem_cons_succ, Act.put, List.setIfInBounds_toArray, List.set_cons_zero, List.set_cons_succ]
      refine wpAnyS_take (i := 5) (v := ?_) (by kernel_rfl) rfl (fun _ _ _ h => h) rfl hSx13 (fun w hSw => by (try dsimp only at hSw); go_simp; try with_reducible rfl) ?_
      try simp only [List.getElem_toArray, List.getElem_cons_zero, List.getElem_cons_succ, Act.put, List.setIfInBounds_toArray, List.set_cons_zero, List.set_cons_succ]
      refine wpAnyS_take (i := 6) (v := ?_) (by kernel_rfl) rfl (fun _ _ _ h => h) rfl hSx13 (fun w hSw => by (try dsimp only at hSw); go_simp; try with_reducible rfl) ?_
      try simp only [List.getElem_toArray, List.getElem_cons_zero, List.getElem_cons_succ, Act.put, List.setIfInBounds_toArray, List.set_cons_zero, List.set_cons_succ]
      refine wpAnyS_take (i := 7) (v := ?_) (by kernel_rfl) rfl (fun _ _ _ h => h) rfl hSx13 (fun w hSw => by (try dsimp only at hSw); go_simp; try with_reducible rfl) ?_
      try simp only [List.getElem_toArray, List.getElem_cons_zero, List.getElem_cons_succ, Act.put, List.setIfInBounds_toArray, List.set_cons_zero, List.set_cons_succ]
      obtain ⟨⟨t0, t1, t2⟩, hz, hlb⟩ := RBx13.out
      have hz0 := hz 0 (by omega)
      have hz1 := hz 1 (by omega)
      have hz2 := hz 2 (by omega)
      have HST : Hid (Tri (((wx13.setCell ⟨bR, 0, none⟩ (.int .i64 Q)).setCell ⟨bR, 1, none⟩ (.int .i64 V)).setCell ⟨bR, 2, none⟩ (.int .i64 O)) bR Q V O) := Lib.hid (tri_set ⟨t0, t1, t2⟩ Q V O)
      have HP1 := Lib.hid (((P1x13.out.other (b' := bR) (o := 0) (.int .i64 Q) (fun e => HNE.out.1 e.symm)).other (b' := bR) (o := 1) (.int .i64 V) (fun e => HNE.out.1 e.symm)).other (b' := bR) (o := 2) (.int .i64 O) (fun e => HNE.out.1 e.symm))
      have HP2 := Lib.hid (((P2x13.out.other (b' := bR) (o := 0) (.int .i64 Q) (fun e => HNE.out.2.1 e.symm)).other (b' := bR) (o := 1) (.int .i64 V) (fun e => HNE.out.2.1 e.symm)).other (b' := bR) (o := 2) (.int .i64 O) (fun e => HNE.out.2.1 e.symm))
      have HBF := Lib.hid (below_three BBx13.out HNE.out.2.2 (.int .i64 Q) (.int .i64 V) (.int .i64 O))
      refine wpAnyS_one (i := 9) (by kernel_rfl) rfl rfl (fun K hK => ?_)
      go_simp
      refine hK.out _ _ (fun _ => ⟨HP1.out.1, HP1.out.2.1, HP1.out.2.2.1, HP1.out.2.2.2, HP2.out.1, HP2.out.2.1, HP2.out.2.2.1, HP2.out.2.2.2⟩) ?_
      clear hK K
      try simp only [List.getElem_toArray, List.getElem_cons_zero, List.getElem_cons_succ, Act.put, List.setIfInBounds_toArray, List.set_cons_zero, List.set_cons_succ]
      refine wpAnyS_end 1 10 (by kernel_rfl) (by decide) rfl ?_
      simp only [List.toList_toArray, List.drop_succ_cons, List.drop_zero]
      go_wp2_with fail
      go_meet
      exact ⟨bR, rfl, rfl, HST, HBF⟩
  case rest =>
  obtain ⟨bR, rfl, rfl, TR7, hbx⟩ := hcut
  obtain ⟨w7, hw7⟩ : ∃ w7, w7 = wc := ⟨_, rfl⟩
  subst hw7
  apply_assumption
  have P17 := Lib.hid (P16.out.below hbx.out)
  have P27 := Lib.hid (P26.out.below hbx.out)
  have K17 := Lib.hid (K16.out.below hbx.out)
  have K27 := Lib.hid (K26.out.below hbx.out)
  have BB7 : Hid (Below w.heap.size w w7) := Lib.hid (BB6.out.trans (hbx.out.mono BB6.out.size))
  clear P16 P26 K16 K26 hbx BB6 HORD HPR1 HPR2
  rcases ok with _ | _
  · go_wp2
    go_ret
    exact ⟨rfl, BB7.out⟩
  obtain ⟨pf1, pf2, hQ⟩ := HPF.out rfl
  have F1 := Lib.hid pf1
  have F2 := Lib.hid pf2
  have hfq := pf1.fo.q
  have hfv := pf1.fo.v
  have hfn := pf1.fo.nq
  have HEL := Lib.hid (fun w hI => elements18 Q V O (by omega) (by omega) Al nl cl m l w hI HR.out hnl (by omega))
  have hmk := mk_int64 m (by omega)
  clear pf1 pf2 HPF
  go_upto_region 10 with (fail)
  go_cut [15, 16] from 70 to 75 (fun s15 s16 wx => ∃ bX bY, s15 = .slice (some ⟨bX, 0, none⟩) m m ∧ s16 = .slice (some ⟨bY, 0, none⟩) m m ∧ bX ≠ bY ∧ w7.heap.size ≤ bY ∧ Hid (IntsAt wx (some ⟨bX, 0, none⟩) m (elF Q nl l)) ∧ Hid (Row wx bY m (fun _ => 0)) ∧ Hid (Below w7.heap.size w7 wx))
  case first =>
    refine wp_region_S (fun w' => w'.cell? ⟨bR, 0, none⟩ = some (.int .i64 Q) ∧ w'.cell? ⟨bR, 1, none⟩ = some (.int .i64 V) ∧ w'.cell? ⟨bR, 2, none⟩ = some (.int .i64 O)) 7 (by kernel_rfl) ?_
    have hbd := (Below.refl w7.heap.size w7).drew
    have TRd := Lib.hid (TR7.out.below hbd)
    have BBd := Lib.hid hbd
    generalize w7.drew = wd at *
    have hS0 : (fun w' => w'.cell? ⟨bR, 0, none⟩ = some (.int .i64 Q) ∧ w'.cell? ⟨bR, 1, none⟩ = some (.int .i64 V) ∧ w'.cell? ⟨bR, 2, none⟩ = some (.int .i64 O)) wd := TRd.out
    refine wpAnyS_take (i := 0) (v := ?_) (by kernel_rfl) rfl (fun _ _ _ h => h) rfl hS0 (fun w hSw => by (try dsimp only at hSw); go_simp; try with_reducible rfl) ?_
    try simp only [List.getElem_toArray, List.getElem_cons_zero, List.getElem_cons_succ, Act.put, List.setIfInBounds_toArray, List.set_cons_zero, List.set_cons_succ]
    refine wpAnyS_take (i := 1) (v := ?_) (by kernel_rfl) rfl (fun _ _ _ h => h) rfl hS0 (fun w hSw => by (try dsimp only at hSw); go_simp; try with_reducible rfl) ?_
    try simp only [List.getElem_toArray, List.getElem_cons_zero, List.getElem_cons_succ, Act.put, List.setIfInBounds_toArray, List.set_cons_zero, List.set_cons_succ]
    refine wpAnyS_take (i := 2) (v := ?_) (by kernel_rfl) rfl (fun _ _ _ h => h) rfl hS0 (fun w hSw => by (try dsimp only at hSw); go_simp; try with_reducible rfl) ?_
    try simp only [List.getElem_toArray, List.getElem_cons_zero, List.getElem_cons_succ, Act.put, List.setIfInBounds_toArray, List.set_cons_zero, List.set_cons_succ]
    refine wpAnyS_take (i := 4) (v := ?_) (by kernel_rfl) rfl (fun _ _ _ h => h) rfl hS0 (fun w hSw => by (try dsimp only at hSw); go_simp; try with_reducible rfl) ?_
    try simp only [List.getElem_toArray, List.getElem_cons_zero, List.getElem_cons_succ, Act.put, List.setIfInBounds_toArray, List.set_cons_zero, List.set_cons_succ]
    refine wpAnyS_pair (i := 3) (j := 5) (by kernel_rfl) rfl rfl rfl rfl (fun K hK => ?_) (fun K hK => ?_)
    · go_simp
      refine (HEL.out wd (HL.out.keep (BB7.out.trans (BBd.out.mono BB7.out.size)))).mono ?_
      rintro z we ⟨rfl, hrow, hb⟩
      have TRe := Lib.hid (TRd.out.below hb)
      have BBe : Hid (Below w7.heap.size w7 we) := Lib.hid (BBd.out.trans (hb.mono BBd.out.size))
      have Xe := Lib.hid hrow.ints
      have hse : wd.heap.size + 1 < we.heap.size := by have := (hrow 0 (by omega)).1; exact cell_lt this
      clear hrow hb
      refine hK.out _ _ (fun _ => TRe.out) ?_
      clear hK K
      try simp only [List.getElem_toArray, List.getElem_cons_zero, List.getElem_cons_succ, Act.put, List.setIfInBounds_toArray, List.set_cons_zero, List.set_cons_succ]
      refine wpAnyS_take (i := 6) (v := ?_) (by kernel_rfl) rfl (fun _ _ _ h => h) rfl TRe.out (fun w hSw => by (try dsimp only at hSw); go_simp; try with_reducible rfl) ?_
      try simp only [List.getElem_toArray, List.getElem_cons_zero, List.getElem_cons_succ, Act.put, List.setIfInBounds_toArray, List.set_cons_zero, List.set_cons_succ]
      refine wpAnyS_one (i := 5) (by kernel_rfl) rfl rfl (fun K hK => ?_)
      go_simp
      obtain ⟨wf, hW⟩ : ∃ wf, wf = we.alloc (.cells (zs m) 2) := ⟨_, rfl⟩
      have hb : Below we.heap.size we wf := by rw [hW]; exact (Below.refl _ we).alloc (Nat.le_refl _) _
      have hz := zs_row m we 2
      rw [← hW] at hz ⊢
      have BBf : Hid (Below w7.heap.size w7 wf) := Lib.hid (BBe.out.trans (hb.mono BBe.out.size))
      have Xf := Lib.hid (Xe.out.keep hb)
      have hS2 := TRe.out.below hb
      have WZ := Lib.hid hz
      have hle := BBe.out.size
      clear hW hb hz
      refine hK.out _ _ (fun _ => hS2) ?_
      clear hK K
      try simp only [List.getElem_toArray, List.getElem_cons_zero, List.getElem_cons_succ, Act.put, List.setIfInBounds_toArray, List.set_cons_zero, List.set_cons_succ]
      refine wpAnyS_end 1 7 (by kernel_rfl) (by decide) rfl ?_
      simp only [List.toList_toArray, List.drop_succ_cons, List.drop_zero]
      go_wp2_with fail
      go_meet
      exact ⟨_, _, rfl, rfl, by omega, hle, Xf, WZ, BBf⟩
    · go_simp
      obtain ⟨we, hW⟩ : ∃ we, we = wd.alloc (.cells (zs m) 2) := ⟨_, rfl⟩
      have hb : Below wd.heap.size wd we := by rw [hW]; exact (Below.refl _ wd).alloc (Nat.le_refl _) _
      have hz := zs_row m wd 2
      rw [← hW] at hz ⊢
      have TRe := Lib.hid (TRd.out.below hb)
      have BBe : Hid (Below w7.heap.size w7 we) := Lib.hid (BBd.out.trans (hb.mono BBd.out.size))
      have hse := (hz 0 (by omega)).1
      have hse := cell_lt hse
      have WZ0 := hz
      have hle := BBd.out.size
      clear hW hb hz
      refine hK.out _ _ (fun _ => TRe.out) ?_
      clear hK K
      try simp only [List.getElem_toArray, List.getElem_cons_zero, List.getElem_cons_succ, Act.put, List.setIfInBounds_toArray, List.set_cons_zero, List.set_cons_succ]
      refine wpAnyS_one (i := 3) (by kernel_rfl) rfl rfl (fun K hK => ?_)
      go_simp
      refine (HEL.out we (HL.out.keep (BB7.out.trans (BBe.out.mono BB7.out.size)))).mono ?_
      rintro z wf ⟨rfl, hrow, hb⟩
      have BBf : Hid (Below w7.heap.size w7 wf) := Lib.hid (BBe.out.trans (hb.mono BBe.out.size))
      have Xf := Lib.hid hrow.ints
      have hS2 := TRe.out.below hb
      have WZ := Lib.hid (Row.keep hb WZ0)
      clear hb hrow
      refine hK.out _ _ (fun _ => hS2) ?_
      clear hK K
      try simp only [List.getElem_toArray, List.getElem_cons_zero, List.getElem_cons_succ, Act.put, List.setIfInBounds_toArray, List.set_cons_zero, List.set_cons_succ]
      refine wpAnyS_take (i := 6) (v := ?_) (by kernel_rfl) rfl (fun _ _ _ h => h) rfl hS2 (fun w hSw => by (try dsimp only at hSw); go_simp; try with_reducible rfl) ?_
      try simp only [List.getElem_toArray, List.getElem_cons_zero, List.getElem_cons_succ, Act.put, List.setIfInBounds_toArray, List.set_cons_zero, List.set_cons_succ]
      refine wpAnyS_end 1 7 (by kernel_rfl) (by decide) rfl ?_
      simp only [List.toList_toArray, List.drop_succ_cons, List.drop_zero]
      go_wp2_with fail
      go_meet
      exact ⟨_, _, rfl, rfl, by omega, hle, Xf, WZ, BBf⟩
  case rest =>
  obtain ⟨bX, bY, rfl, rfl, hXY, hYl, XC, WC, BC⟩ := hcut
  obtain ⟨w8, hw8⟩ : ∃ w8, w8 = wc := ⟨_, rfl⟩
  subst hw8
  apply_assumption
  have HIN := Lib.hid (elF_in Q nl l (by omega))
  obtain ⟨x, hx⟩ : ∃ x, elF Q nl l = x := ⟨_, rfl⟩
  rw [hx] at XC HIN
  have HYI : Hid (InQ Q (ySeven Q m x)) := Lib.hid (mod_in (by omega) _)
  have HZI : Hid (InQ Q (fiveSum Q x (ySeven Q m x))) := Lib.hid (mod_in (by omega) _)
  clear hx HEL
  go_wp2_with fail
  go_loopw [17, 78] (fun v17 v78 wr => ∃ k : Nat, k ≤ m ∧ v78 = .int .i64 k ∧ Hid (Row wr bY m (fillU k (ySeven Q m x))) ∧ Hid (IntsAt wr (some ⟨bX, 0, none⟩) m x) ∧ Hid (Below w7.heap.size w7 wr)) (fun _ v78 _ => m - (intOf v78).toNat)
  case atStart => exact ⟨0, Nat.zero_le _, rfl, Lib.hid (fill_zero _ WC.out), XC, BC⟩
  case round =>
    clear XC WC BC
    obtain ⟨k, hk, rfl, WR, XR, BR⟩ := hrel
    by_cases hlt : k < m
    · have hki : (k : Int) < m := by omega
      have hil : (3 * k + 1) % m < m := Nat.mod_lt _ (by omega)
      obtain ⟨b1', o1', e1', cx0⟩ := XR.out ((3 * k + 1) % m) hil
      injection e1' with e1'
      injection e1' with e2' e3'
      subst e2' e3'
      have TRW := Lib.hid (TR7.out.below BR.out)
      obtain ⟨t1, ht1⟩ : ∃ t1 : Nat, 3 * k + 1 = t1 := ⟨_, rfl⟩
      have hw3 : IntKind.i64.wrap (3 * (k : Int)) = 3 * (k : Int) := by rw [show 3 * (k : Int) = ((3 * k : Nat) : Int) from by omega]; exact wrapI_nat _ (by omega)
      have hw31 : IntKind.i64.wrap (3 * (k : Int) + 1) = (t1 : Int) := by rw [show 3 * (k : Int) + 1 = ((3 * k + 1 : Nat) : Int) from by omega, ← ht1]; exact wrapI_nat _ (by omega)
      have ht3 : (t1 : Int).tmod m = (((3 * k + 1) % m : Nat) : Int) := by rw [← ht1, Int.tmod_eq_emod_of_nonneg (by omega), Int.natCast_emod]
      clear ht1
      have hm00 : ¬ m = 0 := by omega
      have hxi := HIN.out ((3 * k + 1) % m)
      have hy : ySeven Q m x k = x ((3 * k + 1) % m) * 7 % (Q : Int) := rfl
      obtain ⟨i, hi⟩ : ∃ i, (3 * k + 1) % m = i := ⟨_, rfl⟩
      rw [hi] at hil cx0 ht3 hxi hy
      obtain ⟨X, hX⟩ : ∃ X, x i = X := ⟨_, rfl⟩
      have cx : wr.cell? ⟨bX, i, none⟩ = some (.int .i64 X) := by rw [← hX]; rw [Nat.zero_add] at cx0; exact cx0
      rw [hX] at hxi hy
      have HMU := Lib.hid (fun w => lmul_any Q V O X 7 (by omega) (by omega) hxi.1 hxi.2 (by omega) (by omega) w)
      rw [← hy] at HMU
      have hwi : IntKind.i64.wrap ((i : Int)) = (i : Int) := wrapI_nat i (by omega)
      have hin : 0 ≤ (i : Int) ∧ (i : Int) < (m : Int) := by omega
      obtain ⟨Y, hY⟩ : ∃ Y, ySeven Q m x k = Y := ⟨_, rfl⟩
      rw [hY] at HMU
      have HY := Lib.hid hY
      clear hi hX cx0 hy hY
      go_upto_region 14 with fail
      refine wp_region_S (fun w' => w'.cell? ⟨bR, 0, none⟩ = some (.int .i64 Q) ∧ w'.cell? ⟨bR, 1, none⟩ = some (.int .i64 V) ∧ w'.cell? ⟨bR, 2, none⟩ = some (.int .i64 O) ∧ w'.cell? ⟨bX, i, none⟩ = some (.int .i64 X)) 12 (by kernel_rfl) ?_
      have hS0 := (⟨TRW.out.1, TRW.out.2.1, TRW.out.2.2, cx⟩ : (fun w' => w'.cell? ⟨bR, 0, none⟩ = some (.int .i64 Q) ∧ w'.cell? ⟨bR, 1, none⟩ = some (.int .i64 V) ∧ w'.cell? ⟨bR, 2, none⟩ = some (.int .i64 O) ∧ w'.cell? ⟨bX, i, none⟩ = some (.int .i64 X)) wr.drew)
      refine wpAnyS_take (i := 0) (v := ?_) (by kernel_rfl) rfl (fun _ _ _ h => h) rfl hS0 (fun w hSw => by (try dsimp only at hSw); go_simp; (try simp only [hw3, hw31, ht3, hwi, hin, if_neg hm00, and_self, if_true, Int.toNat_natCast]); try with_reducible rfl) ?_
      try simp only [List.getElem_toArray, List.getElem_cons_zero, List.getElem_cons_succ, Act.put, List.setIfInBounds_toArray, List.set_cons_zero, List.set_cons_succ]
      refine wpAnyS_take (i := 1) (v := ?_) (by kernel_rfl) rfl (fun _ _ _ h => h) rfl hS0 (fun w hSw => by (try dsimp only at hSw); go_simp; (try simp only [hw3, hw31, ht3, hwi, hin, if_neg hm00, and_self, if_true, Int.toNat_natCast]); try with_reducible rfl) ?_
      try simp only [List.getElem_toArray, List.getElem_cons_zero, List.getElem_cons_succ, Act.put, List.setIfInBounds_toArray, List.set_cons_zero, List.set_cons_succ]
      refine wpAnyS_take (i := 2) (v := ?_) (by kernel_rfl) rfl (fun _ _ _ h => h) rfl hS0 (fun w hSw => by (try dsimp only at hSw); go_simp; (try simp only [hw3, hw31, ht3, hwi, hin, if_neg hm00, and_self, if_true, Int.toNat_natCast]); try with_reducible rfl) ?_
      try simp only [List.getElem_toArray, List.getElem_cons_zero, List.getElem_cons_succ, Act.put, List.setIfInBounds_toArray, List.set_cons_zero, List.set_cons_succ]
      refine wpAnyS_take (i := 3) (v := ?_) (by kernel_rfl) rfl (fun _ _ _ h => h) rfl hS0 (fun w hSw => by (try dsimp only at hSw); go_simp; (try simp only [hw3, hw31, ht3, hwi, hin, if_neg hm00, and_self, if_true, Int.toNat_natCast]); try with_reducible rfl) ?_
      try simp only [List.getElem_toArray, List.getElem_cons_zero, List.getElem_cons_succ, Act.put, List.setIfInBounds_toArray, List.set_cons_zero, List.set_cons_succ]
      refine wpAnyS_take (i := 4) (v := ?_) (by kernel_rfl) rfl (fun _ _ _ h => h) rfl hS0 (fun w hSw => by (try dsimp only at hSw); go_simp; (try simp only [hw3, hw31, ht3, hwi, hin, if_neg hm00, and_self, if_true, Int.toNat_natCast]); try with_reducible rfl) ?_
      try simp only [List.getElem_toArray, List.getElem_cons_zero, List.getElem_cons_succ, Act.put, List.setIfInBounds_toArray, List.set_cons_zero, List.set_cons_succ]
      refine wpAnyS_take (i := 5) (v := ?_) (by kernel_rfl) rfl (fun _ _ _ h => h) rfl hS0 (fun w hSw => by (try dsimp only at hSw); go_simp; (try simp only [hw3, hw31, ht3, hwi, hin, if_neg hm00, and_self, if_true, Int.toNat_natCast]); try with_reducible rfl) ?_
      try simp only [List.getElem_toArray, List.getElem_cons_zero, List.getElem_cons_succ, Act.put, List.setIfInBounds_toArray, List.set_cons_zero, List.set_cons_succ]
      refine wpAnyS_take (i := 6) (v := ?_) (by kernel_rfl) rfl (fun _ _ _ h => h) rfl hS0 (fun w hSw => by (try dsimp only at hSw); go_simp; (try simp only [hw3, hw31, ht3, hwi, hin, if_neg hm00, and_self, if_true, Int.toNat_natCast]); try with_reducible rfl) ?_
      try simp only [List.getElem_toArray, List.getElem_cons_zero, List.getElem_cons_succ, Act.put, List.setIfInBounds_toArray, List.set_cons_zero, List.set_cons_succ]
      refine wpAnyS_take (i := 7) (v := ?_) (by kernel_rfl) rfl (fun _ _ _ h => h) rfl hS0 (fun w hSw => by (try dsimp only at hSw); go_simp; (try simp only [hw3, hw31, ht3, hwi, hin, if_neg hm00, and_self, if_true, Int.toNat_natCast]); try with_reducible rfl) ?_
      try simp only [List.getElem_toArray, List.getElem_cons_zero, List.getElem_cons_succ, Act.put, List.setIfInBounds_toArray, List.set_cons_zero, List.set_cons_succ]
      refine wpAnyS_take (i := 8) (v := ?_) (by kernel_rfl) rfl (fun _ _ _ h => h) rfl hS0 (fun w hSw => by (try dsimp only at hSw); go_simp; (try simp only [hw3, hw31, ht3, hwi, hin, if_neg hm00, and_self, if_true, Int.toNat_natCast]); try with_reducible rfl) ?_
      try simp only [List.getElem_toArray, List.getElem_cons_zero, List.getElem_cons_succ, Act.put, List.setIfInBounds_toArray, List.set_cons_zero, List.set_cons_succ]
      refine wpAnyS_take (i := 9) (v := ?_) (by kernel_rfl) rfl (fun _ _ _ h => h) rfl hS0 (fun w hSw => by (try dsimp only at hSw); go_simp; (try simp only [hw3, hw31, ht3, hwi, hin, if_neg hm00, and_self, if_true, Int.toNat_natCast]); try with_reducible rfl) ?_
      try simp only [List.getElem_toArray, List.getElem_cons_zero, List.getElem_cons_succ, Act.put, List.setIfInBounds_toArray, List.set_cons_zero, List.set_cons_succ]
      refine wpAnyS_take (i := 10) (v := ?_) (by kernel_rfl) rfl (fun _ _ _ h => h) rfl hS0 (fun w hSw => by (try dsimp only at hSw); go_simp; (try simp only [hw3, hw31, ht3, hwi, hin, if_neg hm00, and_self, if_true, Int.toNat_natCast]); try with_reducible rfl) ?_
      try simp only [List.getElem_toArray, List.getElem_cons_zero, List.getElem_cons_succ, Act.put, List.setIfInBounds_toArray, List.set_cons_zero, List.set_cons_succ]
      refine wpAnyS_one (i := 11) (by kernel_rfl) rfl rfl (fun K hK => ?_)
      go_simp
      refine (HMU.out _).mono ?_
      rintro z wM ⟨rfl, hbM⟩
      have HBM := Lib.hid hbM
      have hS1 := (⟨keep_cell hbM hS0.1, keep_cell hbM hS0.2.1, keep_cell hbM hS0.2.2.1, keep_cell hbM hS0.2.2.2⟩ : (fun w' => w'.cell? ⟨bR, 0, none⟩ = some (.int .i64 Q) ∧ w'.cell? ⟨bR, 1, none⟩ = some (.int .i64 V) ∧ w'.cell? ⟨bR, 2, none⟩ = some (.int .i64 O) ∧ w'.cell? ⟨bX, i, none⟩ = some (.int .i64 X)) wM)
      clear hbM
      refine hK.out _ _ (fun _ => hS1) ?_
      clear hK K
      try simp only [List.getElem_toArray, List.getElem_cons_zero, List.getElem_cons_succ, Act.put, List.setIfInBounds_toArray, List.set_cons_zero, List.set_cons_succ]
      refine wpAnyS_end 2 12 (by kernel_rfl) (by decide) rfl ?_
      simp only [List.toList_toArray, List.drop_succ_cons, List.drop_zero]
      clear hS0 hS1
      have hb3 : Below wr.heap.size wr wM := (Below.refl _ wr).drew.trans HBM.out
      have WM := Lib.hid (Row.keep hb3 WR.out)
      have XM := Lib.hid (XR.out.keep hb3)
      have BM : Hid (Below w7.heap.size w7 wM) := Lib.hid (BR.out.trans (hb3.mono BR.out.size))
      obtain ⟨r1', r2'⟩ := WM.out k hlt
      have WN := Lib.hid (fill_next (F := ySeven Q m x) (by rw [HY.out]; exact WM.out.set hlt Y))
      have XN := Lib.hid (IntsAt.other (g := bY) (j := k) (v := .int .i64 Y) XM.out (fun b o e => by cases e; exact hXY))
      have BN : Hid (Below w7.heap.size w7 (wM.setCell ⟨bY, k, none⟩ (.int .i64 Y))) := Lib.hid (BM.out.setCell (p := ⟨bY, k, none⟩) hYl _)
      clear cx HBM hb3 WM XM BM
      go_wp2
      exact ⟨⟨k + 1, by omega, by go_num, WN, XN, BN⟩, by simp [intOf]; omega⟩
    obtain rfl : k = m := by omega
    have YR := Lib.hid (fill_full WR.out).ints
    clear WR
    obtain ⟨W9, hW9⟩ : ∃ W9, W9 = wr.alloc (.cells (zs k) 2) := ⟨_, rfl⟩
    have hb9 : Below wr.heap.size wr W9 := by rw [hW9]; exact (Below.refl _ wr).alloc (Nat.le_refl _) _
    have hz9 := zs_row k wr 2
    rw [← hW9] at hz9
    have X9 := Lib.hid (XR.out.keep hb9)
    have Y9 := Lib.hid (YR.out.keep hb9)
    have B9 : Hid (Below w7.heap.size w7 W9) := Lib.hid (BR.out.trans (hb9.mono BR.out.size))
    have hXl : bX < wr.heap.size := XR.out.block (by omega) bX 0 rfl
    have hYl2 : bY < wr.heap.size := YR.out.block (by omega) bY 0 rfl
    have hZl : w7.heap.size ≤ wr.heap.size := BR.out.size
    obtain ⟨bZ, hbZ⟩ : ∃ bZ, wr.heap.size = bZ := ⟨_, rfl⟩
    rw [hbZ] at hz9 hXl hYl2 hZl
    have W9' := Lib.hid (fill_zero (fiveSum Q x (ySeven Q k x)) hz9)
    clear hb9 hz9 XR YR BR
    go_wp2_with fail
    (try rw [← hW9])
    (try rw [hbZ])
    clear hW9 hbZ
    go_loopw [19, 99] (fun v19 v99 wr => ∃ j : Nat, j ≤ k ∧ v99 = .int .i64 j ∧ Hid (Row wr bZ k (fillU j (fiveSum Q x (ySeven Q k x)))) ∧ Hid (IntsAt wr (some ⟨bX, 0, none⟩) k x) ∧ Hid (IntsAt wr (some ⟨bY, 0, none⟩) k (ySeven Q k x)) ∧ Hid (Below w7.heap.size w7 wr)) (fun _ v99 _ => k - (intOf v99).toNat)
    case atStart => exact ⟨0, Nat.zero_le _, rfl, W9', X9, Y9, B9⟩
    case round =>
      clear W9' X9 Y9 B9
      obtain ⟨j, hj, rfl, WR, XR, YR, BR⟩ := hrel
      by_cases hlt : j < k
      · have hki : (j : Int) < k := by omega
        obtain ⟨b1', o1', e1', cx0⟩ := XR.out j hlt
        injection e1' with e1'
        injection e1' with e2' e3'
        subst e2' e3'
        obtain ⟨b1', o1', e1', cy0⟩ := YR.out j hlt
        injection e1' with e1'
        injection e1' with e2' e3'
        subst e2' e3'
        have TRW := Lib.hid (TR7.out.below BR.out)
        have hxi := HIN.out j
        have hyi := HYI.out j
        have hz : fiveSum Q x (ySeven Q k x) j = (5 * x j % (Q : Int) + ySeven Q k x j) % (Q : Int) := rfl
        obtain ⟨X, hX⟩ : ∃ X, x j = X := ⟨_, rfl⟩
        obtain ⟨Y, hY⟩ : ∃ Y, ySeven Q k x j = Y := ⟨_, rfl⟩
        rw [Nat.zero_add, hX] at cx0
        rw [Nat.zero_add, hY] at cy0
        rw [hX] at hxi hz
        rw [hY] at hyi hz
        have HMU := Lib.hid (fun w => lmul_any Q V O 5 X (by omega) (by omega) (by omega) (by omega) hxi.1 hxi.2 w)
        have h50 := Int.emod_nonneg (5 * X) (show (Q : Int) ≠ 0 by omega)
        have h51 := Int.emod_lt_of_pos (5 * X) (show (0 : Int) < Q by omega)
        obtain ⟨U, hU⟩ : ∃ U, 5 * X % (Q : Int) = U := ⟨_, rfl⟩
        rw [hU] at HMU hz h50 h51
        have HAD := Lib.hid (fun w => ladd_any Q V O U Y (by omega) (by omega) h50 h51 hyi.1 hyi.2 w)
        rw [← hz] at HAD
        obtain ⟨Z, hZ⟩ : ∃ Z, fiveSum Q x (ySeven Q k x) j = Z := ⟨_, rfl⟩
        rw [hZ] at HAD
        have HZ := Lib.hid hZ
        clear hX hY hU hz hZ
        go_upto_region 20 with fail
        refine wp_region_S (fun w' => w'.cell? ⟨bR, 0, none⟩ = some (.int .i64 Q) ∧ w'.cell? ⟨bR, 1, none⟩ = some (.int .i64 V) ∧ w'.cell? ⟨bR, 2, none⟩ = some (.int .i64 O) ∧ w'.cell? ⟨bX, j, none⟩ = some (.int .i64 X) ∧ w'.cell? ⟨bY, j, none⟩ = some (.int .i64 Y)) 14 (by kernel_rfl) ?_
        have hS0 := (⟨TRW.out.1, TRW.out.2.1, TRW.out.2.2, cx0, cy0⟩ : (fun w' => w'.cell? ⟨bR, 0, none⟩ = some (.int .i64 Q) ∧ w'.cell? ⟨bR, 1, none⟩ = some (.int .i64 V) ∧ w'.cell? ⟨bR, 2, none⟩ = some (.int .i64 O) ∧ w'.cell? ⟨bX, j, none⟩ = some (.int .i64 X) ∧ w'.cell? ⟨bY, j, none⟩ = some (.int .i64 Y)) wr.drew)
        refine wpAnyS_take (i := 0) (v := ?_) (by kernel_rfl) rfl (fun _ _ _ h => h) rfl hS0 (fun w hSw => by (try dsimp only at hSw); go_simp; try with_reducible rfl) ?_
        try simp only [List.getElem_toArray, List.getElem_cons_zero, List.getElem_cons_succ, Act.put, List.setIfInBounds_toArray, List.set_cons_zero, List.set_cons_succ]
        refine wpAnyS_take (i := 1) (v := ?_) (by kernel_rfl) rfl (fun _ _ _ h => h) rfl hS0 (fun w hSw => by (try dsimp only at hSw); go_simp; try with_reducible rfl) ?_
        try simp only [List.getElem_toArray, List.getElem_cons_zero, List.getElem_cons_succ, Act.put, List.setIfInBounds_toArray, List.set_cons_zero, List.set_cons_succ]
        refine wpAnyS_take (i := 2) (v := ?_) (by kernel_rfl) rfl (fun _ _ _ h => h) rfl hS0 (fun w hSw => by (try dsimp only at hSw); go_simp; try with_reducible rfl) ?_
        try simp only [List.getElem_toArray, List.getElem_cons_zero, List.getElem_cons_succ, Act.put, List.setIfInBounds_toArray, List.set_cons_zero, List.set_cons_succ]
        refine wpAnyS_take (i := 3) (v := ?_) (by kernel_rfl) rfl (fun _ _ _ h => h) rfl hS0 (fun w hSw => by (try dsimp only at hSw); go_simp; try with_reducible rfl) ?_
        try simp only [List.getElem_toArray, List.getElem_cons_zero, List.getElem_cons_succ, Act.put, List.setIfInBounds_toArray, List.set_cons_zero, List.set_cons_succ]
        refine wpAnyS_take (i := 4) (v := ?_) (by kernel_rfl) rfl (fun _ _ _ h => h) rfl hS0 (fun w hSw => by (try dsimp only at hSw); go_simp; try with_reducible rfl) ?_
        try simp only [List.getElem_toArray, List.getElem_cons_zero, List.getElem_cons_succ, Act.put, List.setIfInBounds_toArray, List.set_cons_zero, List.set_cons_succ]
        refine wpAnyS_take (i := 5) (v := ?_) (by kernel_rfl) rfl (fun _ _ _ h => h) rfl hS0 (fun w hSw => by (try dsimp only at hSw); go_simp; try with_reducible rfl) ?_
        try simp only [List.getElem_toArray, List.getElem_cons_zero, List.getElem_cons_succ, Act.put, List.setIfInBounds_toArray, List.set_cons_zero, List.set_cons_succ]
        refine wpAnyS_take (i := 6) (v := ?_) (by kernel_rfl) rfl (fun _ _ _ h => h) rfl hS0 (fun w hSw => by (try dsimp only at hSw); go_simp; try with_reducible rfl) ?_
        try simp only [List.getElem_toArray, List.getElem_cons_zero, List.getElem_cons_succ, Act.put, List.setIfInBounds_toArray, List.set_cons_zero, List.set_cons_succ]
        refine wpAnyS_take (i := 7) (v := ?_) (by kernel_rfl) rfl (fun _ _ _ h => h) rfl hS0 (fun w hSw => by (try dsimp only at hSw); go_simp; try with_reducible rfl) ?_
        try simp only [List.getElem_toArray, List.getElem_cons_zero, List.getElem_cons_succ, Act.put, List.setIfInBounds_toArray, List.set_cons_zero, List.set_cons_succ]
        refine wpAnyS_take (i := 9) (v := ?_) (by kernel_rfl) rfl (fun _ _ _ h => h) rfl hS0 (fun w hSw => by (try dsimp only at hSw); go_simp; try with_reducible rfl) ?_
        try simp only [List.getElem_toArray, List.getElem_cons_zero, List.getElem_cons_succ, Act.put, List.setIfInBounds_toArray, List.set_cons_zero, List.set_cons_succ]
        refine wpAnyS_take (i := 10) (v := ?_) (by kernel_rfl) rfl (fun _ _ _ h => h) rfl hS0 (fun w hSw => by (try dsimp only at hSw); go_simp; try with_reducible rfl) ?_
        try simp only [List.getElem_toArray, List.getElem_cons_zero, List.getElem_cons_succ, Act.put, List.setIfInBounds_toArray, List.set_cons_zero, List.set_cons_succ]
        refine wpAnyS_take (i := 11) (v := ?_) (by kernel_rfl) rfl (fun _ _ _ h => h) rfl hS0 (fun w hSw => by (try dsimp only at hSw); go_simp; try with_reducible rfl) ?_
        try simp only [List.getElem_toArray, List.getElem_cons_zero, List.getElem_cons_succ, Act.put, List.setIfInBounds_toArray, List.set_cons_zero, List.set_cons_succ]
        refine wpAnyS_take (i := 12) (v := ?_) (by kernel_rfl) rfl (fun _ _ _ h => h) rfl hS0 (fun w hSw => by (try dsimp only at hSw); go_simp; try with_reducible rfl) ?_
        try simp only [List.getElem_toArray, List.getElem_cons_zero, List.getElem_cons_succ, Act.put, List.setIfInBounds_toArray, List.set_cons_zero, List.set_cons_succ]
        refine wpAnyS_one (i := 8) (by kernel_rfl) rfl rfl (fun K hK => ?_)
        go_simp
        refine (HMU.out _).mono ?_
        rintro z wM ⟨rfl, hbM⟩
        have HBM := Lib.hid hbM
        have hS1 := (⟨keep_cell hbM hS0.1, keep_cell hbM hS0.2.1, keep_cell hbM hS0.2.2.1, keep_cell hbM hS0.2.2.2.1, keep_cell hbM hS0.2.2.2.2⟩ : (fun w' => w'.cell? ⟨bR, 0, none⟩ = some (.int .i64 Q) ∧ w'.cell? ⟨bR, 1, none⟩ = some (.int .i64 V) ∧ w'.cell? ⟨bR, 2, none⟩ = some (.int .i64 O) ∧ w'.cell? ⟨bX, j, none⟩ = some (.int .i64 X) ∧ w'.cell? ⟨bY, j, none⟩ = some (.int .i64 Y)) wM)
        clear hbM
        refine hK.out _ _ (fun _ => hS1) ?_
        clear hK K
        try simp only [List.getElem_toArray, List.getElem_cons_zero, List.getElem_cons_succ, Act.put, List.setIfInBounds_toArray, List.set_cons_zero, List.set_cons_succ]
        refine wpAnyS_one (i := 13) (by kernel_rfl) rfl rfl (fun K hK => ?_)
        go_simp
        refine (HAD.out _).mono ?_
        rintro z wN ⟨rfl, hbN⟩
        have HBN := Lib.hid (HBM.out.trans (hbN.mono HBM.out.size))
        have hS2 := (⟨keep_cell hbN hS1.1, keep_cell hbN hS1.2.1, keep_cell hbN hS1.2.2.1, keep_cell hbN hS1.2.2.2.1, keep_cell hbN hS1.2.2.2.2⟩ : (fun w' => w'.cell? ⟨bR, 0, none⟩ = some (.int .i64 Q) ∧ w'.cell? ⟨bR, 1, none⟩ = some (.int .i64 V) ∧ w'.cell? ⟨bR, 2, none⟩ = some (.int .i64 O) ∧ w'.cell? ⟨bX, j, none⟩ = some (.int .i64 X) ∧ w'.cell? ⟨bY, j, none⟩ = some (.int .i64 Y)) wN)
        clear hbN HBM
        refine hK.out _ _ (fun _ => hS2) ?_
        clear hK K
        try simp only [List.getElem_toArray, List.getElem_cons_zero, List.getElem_cons_succ, Act.put, List.setIfInBounds_toArray, List.set_cons_zero, List.set_cons_succ]
        refine wpAnyS_end 2 14 (by kernel_rfl) (by decide) rfl ?_
        simp only [List.toList_toArray, List.drop_succ_cons, List.drop_zero]
        clear hS0 hS1 hS2
        have hb3 : Below wr.heap.size wr wN := (Below.refl _ wr).drew.trans HBN.out
        have WM := Lib.hid (Row.keep hb3 WR.out)
        have XM := Lib.hid (XR.out.keep hb3)
        have YM := Lib.hid (YR.out.keep hb3)
        have BM : Hid (Below w7.heap.size w7 wN) := Lib.hid (BR.out.trans (hb3.mono BR.out.size))
        obtain ⟨r1', r2'⟩ := WM.out j hlt
        have WN := Lib.hid (fill_next (F := fiveSum Q x (ySeven Q k x)) (by rw [HZ.out]; exact WM.out.set hlt Z))
        have XN := Lib.hid (IntsAt.other (g := bZ) (j := j) (v := .int .i64 Z) XM.out (fun b o e => by cases e; omega))
        have YN := Lib.hid (IntsAt.other (g := bZ) (j := j) (v := .int .i64 Z) YM.out (fun b o e => by cases e; omega))
        have BN : Hid (Below w7.heap.size w7 (wN.setCell ⟨bZ, j, none⟩ (.int .i64 Z))) := Lib.hid (BM.out.setCell (p := ⟨bZ, j, none⟩) hZl _)
        clear cx0 cy0 HBN hb3 WM XM YM BM
        go_wp2
        exact ⟨⟨j + 1, by omega, by go_num, WN, XN, YN, BN⟩, by simp [intOf]; omega⟩
      obtain rfl : j = k := by omega
      have ZR := Lib.hid (fill_full WR.out).ints
      clear WR
      have P1a := Lib.hid (P17.out.below BR.out)
      have P2a := Lib.hid (P27.out.below BR.out)
      have K1a := Lib.hid (K17.out.below BR.out)
      have K2a := Lib.hid (K27.out.below BR.out)
      have TRa := Lib.hid (TR7.out.below BR.out)
      have BBa : Hid (Below w.heap.size w wr) := Lib.hid (BB7.out.trans (BR.out.mono BB7.out.size))
      obtain ⟨wa, hwa⟩ : ∃ wa, wa = wr := ⟨_, rfl⟩
      subst hwa
      have Xa := XR
      have Ya := YR
      have Za := ZR
      clear XR YR ZR BR
      have HRUN := Lib.hid (Run_f F1.out 1 (.inl rfl) HQ1.out wa Bk1 ck1 (some ⟨bX, 0, none⟩) j (x) K1a.out Xa.out HIN.out)
      obtain ⟨p0, p1, p2, p3⟩ := P1a.out
      obtain ⟨t0, t1, t2⟩ := TRa.out
      go_wp2_with fail
      refine HRUN.out.mono ?_
      rintro z wb ⟨gU, rfl, hy, hb⟩
      have Ub := Lib.hid hy
      have P1b := Lib.hid (P1a.out.below hb)
      have P2b := Lib.hid (P2a.out.below hb)
      have K1b := Lib.hid (K1a.out.below hb)
      have K2b := Lib.hid (K2a.out.below hb)
      have TRb := Lib.hid (TRa.out.below hb)
      have Xb := Lib.hid (Xa.out.keep hb)
      have Yb := Lib.hid (Ya.out.keep hb)
      have Zb := Lib.hid (Za.out.keep hb)
      have BBb : Hid (Below w.heap.size w wb) := Lib.hid (BBa.out.trans (hb.mono BBa.out.size))
      clear hy hb p0 p1 p2 p3 t0 t1 t2 HRUN P1a P2a K1a K2a TRa BBa Xa Ya Za
      have HRUN := Lib.hid (Run_f F2.out 1 (.inl rfl) HQ2.out wb Bk2 ck2 (some ⟨bY, 0, none⟩) j (ySeven Q j x) K2b.out Yb.out HYI.out)
      obtain ⟨p0, p1, p2, p3⟩ := P2b.out
      obtain ⟨t0, t1, t2⟩ := TRb.out
      go_wp2_with fail
      refine HRUN.out.mono ?_
      rintro z wc ⟨gV, rfl, hy, hb⟩
      have Vc := Lib.hid hy
      have P1c := Lib.hid (P1b.out.below hb)
      have P2c := Lib.hid (P2b.out.below hb)
      have K1c := Lib.hid (K1b.out.below hb)
      have K2c := Lib.hid (K2b.out.below hb)
      have TRc := Lib.hid (TRb.out.below hb)
      have Xc := Lib.hid (Xb.out.keep hb)
      have Yc := Lib.hid (Yb.out.keep hb)
      have Zc := Lib.hid (Zb.out.keep hb)
      have Uc := Lib.hid (Ub.out.keep hb)
      have BBc : Hid (Below w.heap.size w wc) := Lib.hid (BBb.out.trans (hb.mono BBb.out.size))
      clear hy hb p0 p1 p2 p3 t0 t1 t2 HRUN P1b P2b K1b K2b TRb BBb Xb Yb Zb Ub
      have HRUN := Lib.hid (Run_f F1.out 1 (.inl rfl) HQ1.out wc Bk1 ck1 (some ⟨bZ, 0, none⟩) j (fiveSum Q x (ySeven Q j x)) K1c.out Zc.out HZI.out)
      obtain ⟨p0, p1, p2, p3⟩ := P1c.out
      obtain ⟨t0, t1, t2⟩ := TRc.out
      go_wp2_with fail
      refine HRUN.out.mono ?_
      rintro z wd ⟨gW, rfl, hy, hb⟩
      have Wd := Lib.hid hy
      have P1d := Lib.hid (P1c.out.below hb)
      have P2d := Lib.hid (P2c.out.below hb)
      have K1d := Lib.hid (K1c.out.below hb)
      have K2d := Lib.hid (K2c.out.below hb)
      have TRd := Lib.hid (TRc.out.below hb)
      have Xd := Lib.hid (Xc.out.keep hb)
      have Yd := Lib.hid (Yc.out.keep hb)
      have Zd := Lib.hid (Zc.out.keep hb)
      have Ud := Lib.hid (Uc.out.keep hb)
      have Vd := Lib.hid (Vc.out.keep hb)
      have BBd : Hid (Below w.heap.size w wd) := Lib.hid (BBc.out.trans (hb.mono BBc.out.size))
      clear hy hb p0 p1 p2 p3 t0 t1 t2 HRUN P1c P2c K1c K2c TRc BBc Xc Yc Zc Uc Vc
      have HRUN := Lib.hid (Run_f F2.out 1 (.inl rfl) HQ2.out wd Bk2 ck2 (some ⟨bX, 0, none⟩) j (x) K2d.out Xd.out HIN.out)
      obtain ⟨p0, p1, p2, p3⟩ := P2d.out
      obtain ⟨t0, t1, t2⟩ := TRd.out
      go_wp2_with fail
      refine HRUN.out.mono ?_
      rintro z we ⟨gZ, rfl, hy, hb⟩
      have Te := Lib.hid hy
      have P1e := Lib.hid (P1d.out.below hb)
      have P2e := Lib.hid (P2d.out.below hb)
      have K1e := Lib.hid (K1d.out.below hb)
      have K2e := Lib.hid (K2d.out.below hb)
      have TRe := Lib.hid (TRd.out.below hb)
      have Xe := Lib.hid (Xd.out.keep hb)
      have Ye := Lib.hid (Yd.out.keep hb)
      have Ze := Lib.hid (Zd.out.keep hb)
      have Ue := Lib.hid (Ud.out.keep hb)
      have Ve := Lib.hid (Vd.out.keep hb)
      have We := Lib.hid (Wd.out.keep hb)
      have BBe : Hid (Below w.heap.size w we) := Lib.hid (BBd.out.trans (hb.mono BBd.out.size))
      clear hy hb p0 p1 p2 p3 t0 t1 t2 HRUN P1d P2d K1d K2d TRd BBd Xd Yd Zd Ud Vd Wd
      clear Ye Ze
      have HSM := Lib.hid (same18 (some ⟨gU, 0, none⟩) (some ⟨gZ, 0, none⟩) j j j j _ _ we Ue.out Te.out (by omega) (by omega))
      rw [sameB2_true (fun i _ => rfl)] at HSM
      go_wp2_with fail
      refine HSM.out.mono ?_
      rintro z wf ⟨rfl, hqt⟩
      have Uf := Lib.hid (Ue.out.keep hqt.below)
      have Vf := Lib.hid (Ve.out.keep hqt.below)
      have Wf := Lib.hid (We.out.keep hqt.below)
      have TRf := Lib.hid (TRe.out.below hqt.below)
      have BBf : Hid (Below w.heap.size w wf) := Lib.hid (BBe.out.trans (hqt.below.mono BBe.out.size))
      clear hqt HSM Ue Ve We Te TRe BBe P1e P2e K1e K2e Xe
      go_wp2_with fail
      go_loopw [28, 184] (fun v28 v184 wr => ∃ i : Nat, i ≤ j ∧ v184 = .int .i64 i ∧ Hid (Below wf.heap.size wf wr)) (fun _ v184 _ => j - (intOf v184).toNat)
      case atStart => exact ⟨0, Nat.zero_le _, rfl, Lib.hid (Below.refl _ _)⟩
      case round =>
        obtain ⟨i, hi, rfl, BR⟩ := hrel
        by_cases hlt : i < j
        · have hki : (i : Int) < j := by omega
          obtain ⟨b1', o1', e1', cu0⟩ := Uf.out.keep BR.out i hlt
          injection e1' with e1'
          injection e1' with e2' e3'
          subst e2' e3'
          obtain ⟨b1', o1', e1', cv0⟩ := Vf.out.keep BR.out i hlt
          injection e1' with e1'
          injection e1' with e2' e3'
          subst e2' e3'
          obtain ⟨b1', o1', e1', cw0⟩ := Wf.out.keep BR.out i hlt
          injection e1' with e1'
          injection e1' with e2' e3'
          subst e2' e3'
          have TRW := Lib.hid (TRf.out.below BR.out)
          have hli := rd_linear F1.out x (ySeven Q j x) i
          have hui := rdF_lt (v := V) (o := O) (n := j) (by omega : 2 ≤ Q) 1 x i
          have hvi := rdF_lt (v := V) (o := O) (n := j) (by omega : 2 ≤ Q) 1 (ySeven Q j x) i
          obtain ⟨A, hA⟩ : ∃ A, rdF Q V O j 1 x i = A := ⟨_, rfl⟩
          obtain ⟨B, hB⟩ : ∃ B, rdF Q V O j 1 (ySeven Q j x) i = B := ⟨_, rfl⟩
          obtain ⟨C, hC⟩ : ∃ C, rdF Q V O j 1 (fiveSum Q x (ySeven Q j x)) i = C := ⟨_, rfl⟩
          rw [Nat.zero_add] at cu0 cv0 cw0
          have cu : wr.cell? ⟨gU, i, none⟩ = some (.int .i64 A) := by rw [← hA]; exact cu0
          have cv : wr.cell? ⟨gV, i, none⟩ = some (.int .i64 B) := by rw [← hB]; exact cv0
          have cw : wr.cell? ⟨gW, i, none⟩ = some (.int .i64 C) := by rw [← hC]; exact cw0
          rw [hA] at hui hli
          rw [hB] at hvi hli
          rw [hC] at hli
          have HMU := Lib.hid (fun w => lmul_any Q V O 5 A (by omega) (by omega) (by omega) (by omega) (by omega) (by omega) w)
          have h50 := Int.emod_nonneg (5 * (A : Int)) (show (Q : Int) ≠ 0 by omega)
          have h51 := Int.emod_lt_of_pos (5 * (A : Int)) (show (0 : Int) < Q by omega)
          obtain ⟨U, hU⟩ : ∃ U, 5 * (A : Int) % (Q : Int) = U := ⟨_, rfl⟩
          rw [hU] at HMU hli h50 h51
          have HAD := Lib.hid (fun w => ladd_any Q V O U B (by omega) (by omega) h50 h51 (by omega) (by omega) w)
          rw [← hli] at HAD
          clear hA hB hC hU hli cu0 cv0 cw0
          go_upto_region 31 with fail
          refine wp_region_S (fun w' => w'.cell? ⟨bR, 0, none⟩ = some (.int .i64 Q) ∧ w'.cell? ⟨bR, 1, none⟩ = some (.int .i64 V) ∧ w'.cell? ⟨bR, 2, none⟩ = some (.int .i64 O) ∧ w'.cell? ⟨gU, i, none⟩ = some (.int .i64 A) ∧ w'.cell? ⟨gV, i, none⟩ = some (.int .i64 B) ∧ w'.cell? ⟨gW, i, none⟩ = some (.int .i64 C)) 16 (by kernel_rfl) ?_
          have hS0 := (⟨TRW.out.1, TRW.out.2.1, TRW.out.2.2, cu, cv, cw⟩ : (fun w' => w'.cell? ⟨bR, 0, none⟩ = some (.int .i64 Q) ∧ w'.cell? ⟨bR, 1, none⟩ = some (.int .i64 V) ∧ w'.cell? ⟨bR, 2, none⟩ = some (.int .i64 O) ∧ w'.cell? ⟨gU, i, none⟩ = some (.int .i64 A) ∧ w'.cell? ⟨gV, i, none⟩ = some (.int .i64 B) ∧ w'.cell? ⟨gW, i, none⟩ = some (.int .i64 C)) wr.drew)
          refine wpAnyS_take (i := 0) (v := ?_) (by kernel_rfl) rfl (fun _ _ _ h => h) rfl hS0 (fun w hSw => by (try dsimp only at hSw); go_simp; try with_reducible rfl) ?_
          try simp only [List.getElem_toArray, List.getElem_cons_zero, List.getElem_cons_succ, Act.put, List.setIfInBounds_toArray, List.set_cons_zero, List.set_cons_succ]
          refine wpAnyS_take (i := 1) (v := ?_) (by kernel_rfl) rfl (fun _ _ _ h => h) rfl hS0 (fun w hSw => by (try dsimp only at hSw); go_simp; try with_reducible rfl) ?_
          try simp only [List.getElem_toArray, List.getElem_cons_zero, List.getElem_cons_succ, Act.put, List.setIfInBounds_toArray, List.set_cons_zero, List.set_cons_succ]
          refine wpAnyS_take (i := 2) (v := ?_) (by kernel_rfl) rfl (fun _ _ _ h => h) rfl hS0 (fun w hSw => by (try dsimp only at hSw); go_simp; try with_reducible rfl) ?_
          try simp only [List.getElem_toArray, List.getElem_cons_zero, List.getElem_cons_succ, Act.put, List.setIfInBounds_toArray, List.set_cons_zero, List.set_cons_succ]
          refine wpAnyS_take (i := 3) (v := ?_) (by kernel_rfl) rfl (fun _ _ _ h => h) rfl hS0 (fun w hSw => by (try dsimp only at hSw); go_simp; try with_reducible rfl) ?_
          try simp only [List.getElem_toArray, List.getElem_cons_zero, List.getElem_cons_succ, Act.put, List.setIfInBounds_toArray, List.set_cons_zero, List.set_cons_succ]
          refine wpAnyS_take (i := 4) (v := ?_) (by kernel_rfl) rfl (fun _ _ _ h => h) rfl hS0 (fun w hSw => by (try dsimp only at hSw); go_simp; try with_reducible rfl) ?_
          try simp only [List.getElem_toArray, List.getElem_cons_zero, List.getElem_cons_succ, Act.put, List.setIfInBounds_toArray, List.set_cons_zero, List.set_cons_succ]
          refine wpAnyS_take (i := 5) (v := ?_) (by kernel_rfl) rfl (fun _ _ _ h => h) rfl hS0 (fun w hSw => by (try dsimp only at hSw); go_simp; try with_reducible rfl) ?_
          try simp only [List.getElem_toArray, List.getElem_cons_zero, List.getElem_cons_succ, Act.put, List.setIfInBounds_toArray, List.set_cons_zero, List.set_cons_succ]
          refine wpAnyS_take (i := 6) (v := ?_) (by kernel_rfl) rfl (fun _ _ _ h => h) rfl hS0 (fun w hSw => by (try dsimp only at hSw); go_simp; try with_reducible rfl) ?_
          try simp only [List.getElem_toArray, List.getElem_cons_zero, List.getElem_cons_succ, Act.put, List.setIfInBounds_toArray, List.set_cons_zero, List.set_cons_succ]
          refine wpAnyS_take (i := 7) (v := ?_) (by kernel_rfl) rfl (fun _ _ _ h => h) rfl hS0 (fun w hSw => by (try dsimp only at hSw); go_simp; try with_reducible rfl) ?_
          try simp only [List.getElem_toArray, List.getElem_cons_zero, List.getElem_cons_succ, Act.put, List.setIfInBounds_toArray, List.set_cons_zero, List.set_cons_succ]
          refine wpAnyS_take (i := 8) (v := ?_) (by kernel_rfl) rfl (fun _ _ _ h => h) rfl hS0 (fun w hSw => by (try dsimp only at hSw); go_simp; try with_reducible rfl) ?_
          try simp only [List.getElem_toArray, List.getElem_cons_zero, List.getElem_cons_succ, Act.put, List.setIfInBounds_toArray, List.set_cons_zero, List.set_cons_succ]
          refine wpAnyS_take (i := 9) (v := ?_) (by kernel_rfl) rfl (fun _ _ _ h => h) rfl hS0 (fun w hSw => by (try dsimp only at hSw); go_simp; try with_reducible rfl) ?_
          try simp only [List.getElem_toArray, List.getElem_cons_zero, List.getElem_cons_succ, Act.put, List.setIfInBounds_toArray, List.set_cons_zero, List.set_cons_succ]
          refine wpAnyS_take (i := 11) (v := ?_) (by kernel_rfl) rfl (fun _ _ _ h => h) rfl hS0 (fun w hSw => by (try dsimp only at hSw); go_simp; try with_reducible rfl) ?_
          try simp only [List.getElem_toArray, List.getElem_cons_zero, List.getElem_cons_succ, Act.put, List.setIfInBounds_toArray, List.set_cons_zero, List.set_cons_succ]
          refine wpAnyS_take (i := 12) (v := ?_) (by kernel_rfl) rfl (fun _ _ _ h => h) rfl hS0 (fun w hSw => by (try dsimp only at hSw); go_simp; try with_reducible rfl) ?_
          try simp only [List.getElem_toArray, List.getElem_cons_zero, List.getElem_cons_succ, Act.put, List.setIfInBounds_toArray, List.set_cons_zero, List.set_cons_succ]
          refine wpAnyS_take (i := 13) (v := ?_) (by kernel_rfl) rfl (fun _ _ _ h => h) rfl hS0 (fun w hSw => by (try dsimp only at hSw); go_simp; try with_reducible rfl) ?_
          try simp only [List.getElem_toArray, List.getElem_cons_zero, List.getElem_cons_succ, Act.put, List.setIfInBounds_toArray, List.set_cons_zero, List.set_cons_succ]
          refine wpAnyS_take (i := 14) (v := ?_) (by kernel_rfl) rfl (fun _ _ _ h => h) rfl hS0 (fun w hSw => by (try dsimp only at hSw); go_simp; try with_reducible rfl) ?_
          try simp only [List.getElem_toArray, List.getElem_cons_zero, List.getElem_cons_succ, Act.put, List.setIfInBounds_toArray, List.set_cons_zero, List.set_cons_succ]
          refine wpAnyS_one (i := 10) (by kernel_rfl) rfl rfl (fun K hK => ?_)
          go_simp
          refine (HMU.out _).mono ?_
          rintro z wM ⟨rfl, hbM⟩
          have HBM := Lib.hid hbM
          have hS1 := (⟨keep_cell hbM hS0.1, keep_cell hbM hS0.2.1, keep_cell hbM hS0.2.2.1, keep_cell hbM hS0.2.2.2.1, keep_cell hbM hS0.2.2.2.2.1, keep_cell hbM hS0.2.2.2.2.2⟩ : (fun w' => w'.cell? ⟨bR, 0, none⟩ = some (.int .i64 Q) ∧ w'.cell? ⟨bR, 1, none⟩ = some (.int .i64 V) ∧ w'.cell? ⟨bR, 2, none⟩ = some (.int .i64 O) ∧ w'.cell? ⟨gU, i, none⟩ = some (.int .i64 A) ∧ w'.cell? ⟨gV, i, none⟩ = some (.int .i64 B) ∧ w'.cell? ⟨gW, i, none⟩ = some (.int .i64 C)) wM)
          clear hbM
          refine hK.out _ _ (fun _ => hS1) ?_
          clear hK K
          try simp only [List.getElem_toArray, List.getElem_cons_zero, List.getElem_cons_succ, Act.put, List.setIfInBounds_toArray, List.set_cons_zero, List.set_cons_succ]
          refine wpAnyS_one (i := 15) (by kernel_rfl) rfl rfl (fun K hK => ?_)
          go_simp
          refine (HAD.out _).mono ?_
          rintro z wN ⟨rfl, hbN⟩
          have HBN := Lib.hid (HBM.out.trans (hbN.mono HBM.out.size))
          have hS2 := (⟨keep_cell hbN hS1.1, keep_cell hbN hS1.2.1, keep_cell hbN hS1.2.2.1, keep_cell hbN hS1.2.2.2.1, keep_cell hbN hS1.2.2.2.2.1, keep_cell hbN hS1.2.2.2.2.2⟩ : (fun w' => w'.cell? ⟨bR, 0, none⟩ = some (.int .i64 Q) ∧ w'.cell? ⟨bR, 1, none⟩ = some (.int .i64 V) ∧ w'.cell? ⟨bR, 2, none⟩ = some (.int .i64 O) ∧ w'.cell? ⟨gU, i, none⟩ = some (.int .i64 A) ∧ w'.cell? ⟨gV, i, none⟩ = some (.int .i64 B) ∧ w'.cell? ⟨gW, i, none⟩ = some (.int .i64 C)) wN)
          clear hbN HBM
          refine hK.out _ _ (fun _ => hS2) ?_
          clear hK K
          try simp only [List.getElem_toArray, List.getElem_cons_zero, List.getElem_cons_succ, Act.put, List.setIfInBounds_toArray, List.set_cons_zero, List.set_cons_succ]
          refine wpAnyS_end 1 16 (by kernel_rfl) (by decide) rfl ?_
          simp only [List.toList_toArray, List.drop_succ_cons, List.drop_zero]
          clear hS0 hS1 hS2
          have BN : Hid (Below wf.heap.size wf wN) := Lib.hid ((BR.out.trans ((Below.refl _ wr).drew.mono BR.out.size)).trans (HBN.out.mono BR.out.size))
          clear cu cv cw HBN
          go_wp2
          exact ⟨⟨i + 1, by omega, by go_num, BN⟩, by simp [intOf]; omega⟩
        · obtain rfl : i = j := by omega
          go_wp2
          go_ret
          exact ⟨rfl, BBf.out.trans (BR.out.mono BBf.out.size)⟩
end Go.Proofs.Yteaimnemobnknaa
