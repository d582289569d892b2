/- The contract of model.Agree. -/
import Derived.Test.YteaimnemobnknaaM9
set_option linter.unusedSimpArgs false
set_option linter.unusedVariables false
namespace Go.Proofs.Yteaimnemobnknaa
open Go.RowKit Go.Lib

/-- The error of a length and a sign, of a plan that can be. -/
def lenE (N m : Nat) (s : Int) : Int := if (m : Int) ≠ N then 4 else if s ≠ 1 ∧ s ≠ -1 then 6 else 0
theorem runE_len {k r : Int} {N m : Nat} {s : Int} {q : Fo} (h : checkE k N r q N = 0) : runE k N r q m s = lenE N m s := by
  unfold runE lenE
  rw [if_neg (by rw [h]; decide)]
/-- The error of two plans, a length and a sign. -/
def agreeE (x y : Nat × Int) (N m : Nat) (s : Int) : Int := if (bothR x y).2 ≠ 0 then (bothR x y).2 else lenE N m s
theorem both_dvd {k1 r1 k2 r2 : Int} {N1 N2 : Int} {q1 q2 : Fo} (h1 : (ordR k1 N1 r1 q1).2 = 0 → 1 ≤ (ordR k1 N1 r1 q1).1) (h2 : (ordR k2 N2 r2 q2).2 = 0 → 1 ≤ (ordR k2 N2 r2 q2).1) (h : (bothR (ordR k1 N1 r1 q1) (ordR k2 N2 r2 q2)).2 = 0) :
    ordR k1 N1 r1 q1 = ((ordR k1 N1 r1 q1).1, 0) ∧ ordR k2 N2 r2 q2 = ((ordR k2 N2 r2 q2).1, 0) ∧ (ordR k1 N1 r1 q1).1 ∣ (bothR (ordR k1 N1 r1 q1) (ordR k2 N2 r2 q2)).1 ∧ (ordR k2 N2 r2 q2).1 ∣ (bothR (ordR k1 N1 r1 q1) (ordR k2 N2 r2 q2)).1 := by
  obtain ⟨⟨o1, e1⟩, hO1⟩ : ∃ R, ordR k1 N1 r1 q1 = R := ⟨_, rfl⟩
  obtain ⟨⟨o2, e2⟩, hO2⟩ : ∃ R, ordR k2 N2 r2 q2 = R := ⟨_, rfl⟩
  rw [hO1] at h1 h ⊢
  rw [hO2] at h2 h ⊢
  unfold bothR at h ⊢
  dsimp only at h1 h2 h ⊢
  by_cases he1 : e1 = 0
  · subst he1
    by_cases he2 : e2 = 0
    · subst he2
      rw [if_neg (by decide), if_neg (by decide)] at h ⊢
      by_cases hl : (lcmF o1 o2 1099511627776).2 = true
      · obtain ⟨-, -, d1, d2⟩ := lcmF_le (h1 rfl) (h2 rfl) hl
        rw [if_pos hl]
        exact ⟨rfl, rfl, d1, d2⟩
      · rw [if_neg hl] at h; exact absurd h (by decide)
    · rw [if_neg (by decide), if_pos he2] at h; exact absurd h he2
  · rw [if_pos he1] at h; exact absurd h he1
set_option maxRecDepth 100000 in
set_option maxHeartbeats 8000000 in
theorem Agree_any (k1 r1 : Int) (q1 : Fo) (k2 r2 : Int) (q2 : Fo) (N : Nat) (hN1 : 1 ≤ N) (hN : N ≤ 512) (hc1 : q1.count ≤ 549755813888) (hc2 : q2.count ≤ 549755813888) (ck1 : checkE k1 N r1 q1 N = 0) (ck2 : checkE k2 N r2 q2 N = 0) (w : World) (A1 A2 : Option Addr) (c1 c2 : Nat) (hk1 : Kids w A1 0 q1) (hk2 : Kids w A2 0 q2)
    (h1 : (ordR k1 N r1 q1).2 = 0 → 1 ≤ (ordR k1 N r1 q1).1 ∧ (ordR k1 N r1 q1).1 ≤ 1099511627776) (h2 : (ordR k2 N r2 q2).2 = 0 → 1 ≤ (ordR k2 N r2 q2).1 ∧ (ordR k2 N r2 q2).1 ≤ 1099511627776)
    (hF : (bothR (ordR k1 N r1 q1) (ordR k2 N r2 q2)).2 = 0 → ∃ Q, FieldQ (bothR (ordR k1 N r1 q1) (ordR k2 N r2 q2)).1 Q)
    (X : Option Addr) (m cm : Nat) (f : Nat → Int) (hI : IntsAt w X m f) (hR : Rng f) (hm : m ≤ 1048576) (s : Int) :
    Calls Try.prog 44 #[plV k1 N r1 A1 q1.len c1, plV k2 N r2 A2 q2.len c2, .slice X m cm, .int .i64 s] w (Ret w (.tuple #[.bool (decide (agreeE (ordR k1 N r1 q1) (ordR k2 N r2 q2) N m s = 0)), .int .i64 (agreeE (ordR k1 N r1 q1) (ordR k2 N r2 q2) N m s)])) := by
  have HBO := Lib.hid (fun w ha hb => both_any k1 N r1 q1 k2 N r2 q2 hc1 hc2 w A1 A2 c1 c2 ha hb h1 h2 hF)
  have HDV := Lib.hid (both_dvd (fun h => (h1 h).1) (fun h => (h2 h).1) : (bothR (ordR k1 N r1 q1) (ordR k2 N r2 q2)).2 = 0 → _)
  have HK1 := Lib.hid hk1
  have HK2 := Lib.hid hk2
  have HI := Lib.hid hI
  have HRR := Lib.hid hR
  have HCK1 := Lib.hid ck1
  have HCK2 := Lib.hid ck2
  have hNO1 := fun (v : Value) (hne : lenE N m s ≠ 0) (w : World) (X : Option Addr) (h : Kids w A1 0 q1) => Run_no v k1 N r1 q1 hc1 s m (by rw [runE_len ck1]; exact hne) w A1 c1 X m h
  rw [runE_len ck1] at hNO1
  have HNO1 := Lib.hid hNO1
  have hAG : agreeE (ordR k1 N r1 q1) (ordR k2 N r2 q2) N m s = if (bothR (ordR k1 N r1 q1) (ordR k2 N r2 q2)).2 ≠ 0 then (bothR (ordR k1 N r1 q1) (ordR k2 N r2 q2)).2 else lenE N m s := rfl
  obtain ⟨T, hT⟩ : ∃ T, agreeE (ordR k1 N r1 q1) (ordR k2 N r2 q2) N m s = T := ⟨_, rfl⟩
  rw [hT] at hAG ⊢
  obtain ⟨⟨L, E⟩, hB⟩ : ∃ R, bothR (ordR k1 N r1 q1) (ordR k2 N r2 q2) = R := ⟨_, rfl⟩
  rw [hB] at HBO HDV hAG
  dsimp only at HBO HDV hAG
  have HT := Lib.hid hAG
  obtain ⟨D, hD⟩ : ∃ D, decide (T = 0) = D := ⟨_, rfl⟩
  rw [hD]
  have HD := Lib.hid hD
  obtain ⟨W0, hW0⟩ : ∃ W0, W0 = (w.alloc (.cells #[.int .i64 k1, .int .i64 N, .int .i64 r1, .slice A1 q1.len c1] 26)).alloc (.cells #[.int .i64 k2, .int .i64 N, .int .i64 r2, .slice A2 q2.len c2] 26) := ⟨_, rfl⟩
  have hb0 : Below w.heap.size w W0 := by rw [hW0]; exact ((Below.refl _ w).alloc (Nat.le_refl _) _).alloc (by simp) _
  have hp1 : PlBox W0 w.heap.size k1 N r1 A1 q1.len c1 := by
    rw [hW0]
    exact (PlBox.new w k1 N r1 A1 q1.len c1 _).below ((Below.refl _ _).alloc (Nat.le_refl _) _)
  have hp2 : PlBox W0 (w.heap.size + 1) k2 N r2 A2 q2.len c2 := by
    rw [hW0]
    have := PlBox.new (w.alloc (.cells #[.int .i64 k1, .int .i64 N, .int .i64 r1, .slice A1 q1.len c1] 26)) k2 N r2 A2 q2.len c2 26
    simp only [World.size_alloc] at this
    exact this
  have HB0 := Lib.hid hb0
  have HP1 := Lib.hid hp1
  have HP2 := Lib.hid hp2
  obtain ⟨p0, p1, p2, p3⟩ := hp1
  obtain ⟨s0, s1, s2, s3⟩ := hp2
  clear hk1 hk2 hb0 h1 h2 hF hI hR ck1 ck2 hNO1 hAG hT hB hD
  go_enter Try.func44, Try.ntmps44
  go_wp2_with fail
  try rw [← hW0]
  refine (HBO.out W0 (HK1.out.below HB0.out) (HK2.out.below HB0.out)).mono ?_
  rintro z w1 ⟨Q, V, O, rfl, hQV, hb1⟩
  have HQV := Lib.hid hQV
  have HB1 := Lib.hid (HB0.out.trans (hb1.mono HB0.out.size))
  have HP11 := Lib.hid (HP1.out.below hb1)
  have HP21 := Lib.hid (HP2.out.below hb1)
  clear hb1 hW0 hQV HBO HP1 HP2 HB0 p0 p1 p2 p3 s0 s1 s2 s3
  go_upto_region 2 with (fail)
  obtain ⟨w2, hw2⟩ : ∃ w2, w2 = w1.alloc (.cells #[.int .i64 Q, .int .i64 V, .int .i64 O] 60) := ⟨_, rfl⟩
  have hb2 : Below w1.heap.size w1 w2 := by rw [hw2]; exact (Below.refl _ w1).alloc (Nat.le_refl _) _
  have hT2 := Tri.new w1 (Q : Int) V O 60
  rw [← hw2] at hT2 ⊢
  obtain ⟨bF, hbF⟩ : ∃ bF, w1.heap.size = bF := ⟨_, rfl⟩
  rw [hbF] at hT2 ⊢
  have HB2 := Lib.hid (HB1.out.trans (hb2.mono HB1.out.size))
  have HT2 := Lib.hid hT2
  have HP12 := Lib.hid (HP11.out.below hb2)
  have HP22 := Lib.hid (HP21.out.below hb2)
  clear hw2 hb2 hT2 hbF HP11 HP21 HB1
  by_cases hE : E = 0
  case neg =>
    have hEb : (E == 0) = false := by simpa using hE
    obtain rfl : T = E := by have := HT.out; rw [if_pos hE] at this; exact this
    have hDf : D = false := by rw [← HD.out]; exact decide_eq_false hE
    subst hDf
    go_wp2
    go_ret2
    exact ⟨rfl, HB2.out⟩
  subst hE
  have hTl : T = lenE N m s := by have := HT.out; rw [if_neg (by decide)] at this; exact this
  obtain ⟨rfl, F, W⟩ := HQV.out rfl
  obtain ⟨ho1, ho2, d1, d2⟩ := HDV.out rfl
  have hlo := F.lo
  have hhi := F.hi
  have HEL := Lib.hid (fun w h => melements_any Q V O (by omega) (by omega) X m cm f w h HRR.out hm)
  have G := fieldG F W
  have HG1 : Hid (PlanG Q V O k1 N r1 q1) := Lib.hid ⟨G, HCK1.out, hN, fun x hx => Nat.dvd_trans (ordR_dvd ho1 x hx) d1⟩
  have HG2 : Hid (PlanG Q V O k2 N r2 q2) := Lib.hid ⟨G, HCK2.out, hN, fun x hx => Nat.dvd_trans (ordR_dvd ho2 x hx) d2⟩
  have HTL := Lib.hid hTl
  clear F W G ho1 ho2 d1 d2 HQV HDV hTl
  go_upto_region 4 with (fail)
  obtain ⟨t0, t1, t2⟩ := HT2.out
  by_cases hl0 : lenE N m s = 0
  case neg =>
    obtain rfl : T = lenE N m s := HTL.out
    have hDf : D = false := by rw [← HD.out]; exact decide_eq_false hl0
    subst hDf
    have HNO := Lib.hid (HNO1.out (.iface 60 (rgV Q V O)) hl0)
    have hlb : (lenE N m s == 0) = false := by simpa using hl0
    generalize lenE N m s = T at *
    obtain ⟨p0, p1, p2, p3⟩ := HP12.out
    refine wp_region_S (fun w' => w'.cell? ⟨bF, 0, none⟩ = some (.int .i64 Q) ∧ w'.cell? ⟨bF, 1, none⟩ = some (.int .i64 V) ∧ w'.cell? ⟨bF, 2, none⟩ = some (.int .i64 O) ∧ w'.cell? ⟨w.heap.size, 0, none⟩ = some (.int .i64 k1) ∧ w'.cell? ⟨w.heap.size, 1, none⟩ = some (.int .i64 N) ∧ w'.cell? ⟨w.heap.size, 2, none⟩ = some (.int .i64 r1) ∧ w'.cell? ⟨w.heap.size, 3, none⟩ = some (.slice A1 q1.len c1)) 12 (by kernel_rfl) ?_
    have hS0 := (⟨t0, t1, t2, p0, p1, p2, p3⟩ : (fun w' => w'.cell? ⟨bF, 0, none⟩ = some (.int .i64 Q) ∧ w'.cell? ⟨bF, 1, none⟩ = some (.int .i64 V) ∧ w'.cell? ⟨bF, 2, none⟩ = some (.int .i64 O) ∧ w'.cell? ⟨w.heap.size, 0, none⟩ = some (.int .i64 k1) ∧ w'.cell? ⟨w.heap.size, 1, none⟩ = some (.int .i64 N) ∧ w'.cell? ⟨w.heap.size, 2, none⟩ = some (.int .i64 r1) ∧ w'.cell? ⟨w.heap.size, 3, none⟩ = some (.slice A1 q1.len c1)) w2.drew)
    refine wpAnyS_take (i := 0) (v := ?_) (by kernel_rfl) rfl (fun _ _ _ h => h) rfl hS0 (fun w hSw => by (try dsimp only at hSw); go_simp; try with_reducible rfl) ?_
    try simp only [List.getElem_toArray, List.getElem_cons_zero, List.getElem_cons_succ, Act.put, List.setIfInBounds_toArray, List.set_cons_zero, List.set_cons_succ]
    refine wpAnyS_take (i := 1) (v := ?_) (by kernel_rfl) rfl (fun _ _ _ h => h) rfl hS0 (fun w hSw => by (try dsimp only at hSw); go_simp; try with_reducible rfl) ?_
    try simp only [List.getElem_toArray, List.getElem_cons_zero, List.getElem_cons_succ, Act.put, List.setIfInBounds_toArray, List.set_cons_zero, List.set_cons_succ]
    refine wpAnyS_take (i := 2) (v := ?_) (by kernel_rfl) rfl (fun _ _ _ h => h) rfl hS0 (fun w hSw => by (try dsimp only at hSw); go_simp; try with_reducible rfl) ?_
    try simp only [List.getElem_toArray, List.getElem_cons_zero, List.getElem_cons_succ, Act.put, List.setIfInBounds_toArray, List.set_cons_zero, List.set_cons_succ]
    refine wpAnyS_take (i := 3) (v := ?_) (by kernel_rfl) rfl (fun _ _ _ h => h) rfl hS0 (fun w hSw => by (try dsimp only at hSw); go_simp; try with_reducible rfl) ?_
    try simp only [List.getElem_toArray, List.getElem_cons_zero, List.getElem_cons_succ, Act.put, List.setIfInBounds_toArray, List.set_cons_zero, List.set_cons_succ]
    refine wpAnyS_take (i := 4) (v := ?_) (by kernel_rfl) rfl (fun _ _ _ h => h) rfl hS0 (fun w hSw => by (try dsimp only at hSw); go_simp; try with_reducible rfl) ?_
    try simp only [List.getElem_toArray, List.getElem_cons_zero, List.getElem_cons_succ, Act.put, List.setIfInBounds_toArray, List.set_cons_zero, List.set_cons_succ]
    refine wpAnyS_take (i := 6) (v := ?_) (by kernel_rfl) rfl (fun _ _ _ h => h) rfl hS0 (fun w hSw => by (try dsimp only at hSw); go_simp; try with_reducible rfl) ?_
    try simp only [List.getElem_toArray, List.getElem_cons_zero, List.getElem_cons_succ, Act.put, List.setIfInBounds_toArray, List.set_cons_zero, List.set_cons_succ]
    refine wpAnyS_one (i := 5) (by kernel_rfl) rfl rfl (fun K hK => ?_)
    go_simp
    refine (HEL.out _ (HI.out.keep HB2.out.drew)).mono ?_
    rintro z w3 ⟨g3, rfl, hi3, hb3⟩
    have hbx : Below w2.heap.size w2 w3 := (Below.refl _ w2).drew.trans hb3
    have HI3 := Lib.hid hi3
    have HB3 := Lib.hid (HB2.out.trans (hbx.mono HB2.out.size))
    have hS1 : (fun w' => w'.cell? ⟨bF, 0, none⟩ = some (.int .i64 Q) ∧ w'.cell? ⟨bF, 1, none⟩ = some (.int .i64 V) ∧ w'.cell? ⟨bF, 2, none⟩ = some (.int .i64 O) ∧ w'.cell? ⟨w.heap.size, 0, none⟩ = some (.int .i64 k1) ∧ w'.cell? ⟨w.heap.size, 1, none⟩ = some (.int .i64 N) ∧ w'.cell? ⟨w.heap.size, 2, none⟩ = some (.int .i64 r1) ∧ w'.cell? ⟨w.heap.size, 3, none⟩ = some (.slice A1 q1.len c1)) w3 := ⟨keep_cell hbx t0, keep_cell hbx t1, keep_cell hbx t2, keep_cell hbx p0, keep_cell hbx p1, keep_cell hbx p2, keep_cell hbx p3⟩
    refine hK.out _ _ (fun _ => hS1) ?_
    clear hK K
    try simp only [List.getElem_toArray, List.getElem_cons_zero, List.getElem_cons_succ, Act.put, List.setIfInBounds_toArray, List.set_cons_zero, List.set_cons_succ]
    refine wpAnyS_one (i := 7) (by kernel_rfl) rfl rfl (fun K hK => ?_)
    go_simp
    refine (HNO.out w3 _ (HK1.out.below HB3.out)).mono ?_
    rintro z w4 ⟨rfl, hb4⟩
    have hby : Below w2.heap.size w2 w4 := hbx.trans (hb4.mono hbx.size)
    have HB4 := Lib.hid (HB2.out.trans (hby.mono HB2.out.size))
    have hS2 : (fun w' => w'.cell? ⟨bF, 0, none⟩ = some (.int .i64 Q) ∧ w'.cell? ⟨bF, 1, none⟩ = some (.int .i64 V) ∧ w'.cell? ⟨bF, 2, none⟩ = some (.int .i64 O) ∧ w'.cell? ⟨w.heap.size, 0, none⟩ = some (.int .i64 k1) ∧ w'.cell? ⟨w.heap.size, 1, none⟩ = some (.int .i64 N) ∧ w'.cell? ⟨w.heap.size, 2, none⟩ = some (.int .i64 r1) ∧ w'.cell? ⟨w.heap.size, 3, none⟩ = some (.slice A1 q1.len c1)) w4 := ⟨keep_cell hby t0, keep_cell hby t1, keep_cell hby t2, keep_cell hby p0, keep_cell hby p1, keep_cell hby p2, keep_cell hby p3⟩
    refine hK.out _ _ (fun _ => hS2) ?_
    clear hK K
    try simp only [List.getElem_toArray, List.getElem_cons_zero, List.getElem_cons_succ, Act.put, List.setIfInBounds_toArray, List.set_cons_zero, List.set_cons_succ]
    refine wpAnyS_take (i := 8) (v := ?_) (by kernel_rfl) rfl (fun _ _ _ h => h) rfl hS2 (fun w hSw => by (try dsimp only at hSw); go_simp; try with_reducible rfl) ?_
    try simp only [List.getElem_toArray, List.getElem_cons_zero, List.getElem_cons_succ, Act.put, List.setIfInBounds_toArray, List.set_cons_zero, List.set_cons_succ]
    refine wpAnyS_take (i := 9) (v := ?_) (by kernel_rfl) rfl (fun _ _ _ h => h) rfl hS2 (fun w hSw => by (try dsimp only at hSw); go_simp; try with_reducible rfl) ?_
    try simp only [List.getElem_toArray, List.getElem_cons_zero, List.getElem_cons_succ, Act.put, List.setIfInBounds_toArray, List.set_cons_zero, List.set_cons_succ]
    refine wpAnyS_take (i := 10) (v := ?_) (by kernel_rfl) rfl (fun _ _ _ h => h) rfl hS2 (fun w hSw => by (try dsimp only at hSw); go_simp; try with_reducible rfl) ?_
    try simp only [List.getElem_toArray, List.getElem_cons_zero, List.getElem_cons_succ, Act.put, List.setIfInBounds_toArray, List.set_cons_zero, List.set_cons_succ]
    refine wpAnyS_take (i := 11) (v := ?_) (by kernel_rfl) rfl (fun _ _ _ h => h) rfl hS2 (fun w hSw => by (try dsimp only at hSw); go_simp; try with_reducible rfl) ?_
    try simp only [List.getElem_toArray, List.getElem_cons_zero, List.getElem_cons_succ, Act.put, List.setIfInBounds_toArray, List.set_cons_zero, List.set_cons_succ]
    refine wpAnyS_end 1 12 (by kernel_rfl) (by decide) rfl ?_
    simp only [List.toList_toArray, List.drop_succ_cons, List.drop_zero]
    clear hS0 hS1 hS2 hbx hby hb3 hb4 hi3 HEL HNO HNO1 t0 t1 t2 p0 p1 p2 p3
    go_wp2
    go_ret2
    exact ⟨rfl, HB4.out⟩
  have hms : m = N ∧ (s = 1 ∨ s = -1) := by
    unfold lenE at hl0
    by_cases ha : (m : Int) ≠ N
    · rw [if_pos ha] at hl0; exact absurd hl0 (by decide)
    · rw [if_neg ha] at hl0
      by_cases hb : s ≠ 1 ∧ s ≠ -1
      · rw [if_pos hb] at hl0; exact absurd hl0 (by decide)
      · exact ⟨by omega, by omega⟩
  obtain ⟨rfl, hss⟩ := hms
  obtain rfl : T = 0 := by rw [HTL.out]; exact hl0
  have hDt : D = true := by rw [← HD.out]; exact decide_eq_true rfl
  subst hDt
  have HR1 := Lib.hid (fun (w : World) (g : Nat) (h : Kids w A1 0 q1) (hX : IntsAt w (some ⟨g, 0, none⟩) m (remF Q f)) => Run_g HG1.out s hss hc1 w A1 c1 (some ⟨g, 0, none⟩) m (remF Q f) h hX (remF_in Q (by omega) f))
  have HR2 := Lib.hid (fun (w : World) (g : Nat) (h : Kids w A2 0 q2) (hX : IntsAt w (some ⟨g, 0, none⟩) m (remF Q f)) => Run_g HG2.out s hss hc2 w A2 c2 (some ⟨g, 0, none⟩) m (remF Q f) h hX (remF_in Q (by omega) f))
  clear hss hl0 HNO1 HTL
  obtain ⟨p0, p1, p2, p3⟩ := HP12.out
  refine wp_region_S (fun w' => w'.cell? ⟨bF, 0, none⟩ = some (.int .i64 Q) ∧ w'.cell? ⟨bF, 1, none⟩ = some (.int .i64 V) ∧ w'.cell? ⟨bF, 2, none⟩ = some (.int .i64 O) ∧ w'.cell? ⟨w.heap.size, 0, none⟩ = some (.int .i64 k1) ∧ w'.cell? ⟨w.heap.size, 1, none⟩ = some (.int .i64 m) ∧ w'.cell? ⟨w.heap.size, 2, none⟩ = some (.int .i64 r1) ∧ w'.cell? ⟨w.heap.size, 3, none⟩ = some (.slice A1 q1.len c1)) 12 (by kernel_rfl) ?_
  have hS0 := (⟨t0, t1, t2, p0, p1, p2, p3⟩ : (fun w' => w'.cell? ⟨bF, 0, none⟩ = some (.int .i64 Q) ∧ w'.cell? ⟨bF, 1, none⟩ = some (.int .i64 V) ∧ w'.cell? ⟨bF, 2, none⟩ = some (.int .i64 O) ∧ w'.cell? ⟨w.heap.size, 0, none⟩ = some (.int .i64 k1) ∧ w'.cell? ⟨w.heap.size, 1, none⟩ = some (.int .i64 m) ∧ w'.cell? ⟨w.heap.size, 2, none⟩ = some (.int .i64 r1) ∧ w'.cell? ⟨w.heap.size, 3, none⟩ = some (.slice A1 q1.len c1)) w2.drew)
  refine wpAnyS_take (i := 0) (v := ?_) (by kernel_rfl) rfl (fun _ _ _ h => h) rfl hS0 (fun w hSw => by (try dsimp only at hSw); go_simp; try with_reducible rfl) ?_
  try simp only [List.getElem_toArray, List.getElem_cons_zero, List.getElem_cons_succ, Act.put, List.setIfInBounds_toArray, List.set_cons_zero, List.set_cons_succ]
  refine wpAnyS_take (i := 1) (v := ?_) (by kernel_rfl) rfl (fun _ _ _ h => h) rfl hS0 (fun w hSw => by (try dsimp only at hSw); go_simp; try with_reducible rfl) ?_
  try simp only [List.getElem_toArray, List.getElem_cons_zero, List.getElem_cons_succ, Act.put, List.setIfInBounds_toArray, List.set_cons_zero, List.set_cons_succ]
  refine wpAnyS_take (i := 2) (v := ?_) (by kernel_rfl) rfl (fun _ _ _ h => h) rfl hS0 (fun w hSw => by (try dsimp only at hSw); go_simp; try with_reducible rfl) ?_
  try simp only [List.getElem_toArray, List.getElem_cons_zero, List.getElem_cons_succ, Act.put, List.setIfInBounds_toArray, List.set_cons_zero, List.set_cons_succ]
  refine wpAnyS_take (i := 3) (v := ?_) (by kernel_rfl) rfl (fun _ _ _ h => h) rfl hS0 (fun w hSw => by (try dsimp only at hSw); go_simp; try with_reducible rfl) ?_
  try simp only [List.getElem_toArray, List.getElem_cons_zero, List.getElem_cons_succ, Act.put, List.setIfInBounds_toArray, List.set_cons_zero, List.set_cons_succ]
  refine wpAnyS_take (i := 4) (v := ?_) (by kernel_rfl) rfl (fun _ _ _ h => h) rfl hS0 (fun w hSw => by (try dsimp only at hSw); go_simp; try with_reducible rfl) ?_
  try simp only [List.getElem_toArray, List.getElem_cons_zero, List.getElem_cons_succ, Act.put, List.setIfInBounds_toArray, List.set_cons_zero, List.set_cons_succ]
  refine wpAnyS_take (i := 6) (v := ?_) (by kernel_rfl) rfl (fun _ _ _ h => h) rfl hS0 (fun w hSw => by (try dsimp only at hSw); go_simp; try with_reducible rfl) ?_
  try simp only [List.getElem_toArray, List.getElem_cons_zero, List.getElem_cons_succ, Act.put, List.setIfInBounds_toArray, List.set_cons_zero, List.set_cons_succ]
  refine wpAnyS_one (i := 5) (by kernel_rfl) rfl rfl (fun K hK => ?_)
  go_simp
  refine (HEL.out _ (HI.out.keep HB2.out.drew)).mono ?_
  rintro z w3 ⟨g3, rfl, hi3, hb3⟩
  have hbx : Below w2.heap.size w2 w3 := (Below.refl _ w2).drew.trans hb3
  have HI3 := Lib.hid hi3
  have HB3 := Lib.hid (HB2.out.trans (hbx.mono HB2.out.size))
  have hS1 : (fun w' => w'.cell? ⟨bF, 0, none⟩ = some (.int .i64 Q) ∧ w'.cell? ⟨bF, 1, none⟩ = some (.int .i64 V) ∧ w'.cell? ⟨bF, 2, none⟩ = some (.int .i64 O) ∧ w'.cell? ⟨w.heap.size, 0, none⟩ = some (.int .i64 k1) ∧ w'.cell? ⟨w.heap.size, 1, none⟩ = some (.int .i64 m) ∧ w'.cell? ⟨w.heap.size, 2, none⟩ = some (.int .i64 r1) ∧ w'.cell? ⟨w.heap.size, 3, none⟩ = some (.slice A1 q1.len c1)) w3 := ⟨keep_cell hbx t0, keep_cell hbx t1, keep_cell hbx t2, keep_cell hbx p0, keep_cell hbx p1, keep_cell hbx p2, keep_cell hbx p3⟩
  refine hK.out _ _ (fun _ => hS1) ?_
  clear hK K
  try simp only [List.getElem_toArray, List.getElem_cons_zero, List.getElem_cons_succ, Act.put, List.setIfInBounds_toArray, List.set_cons_zero, List.set_cons_succ]
  refine wpAnyS_one (i := 7) (by kernel_rfl) rfl rfl (fun K hK => ?_)
  go_simp
  refine (HR1.out w3 g3 (HK1.out.below HB3.out) HI3.out).mono ?_
  rintro z w4 ⟨g4, rfl, -, hi4, hb4⟩
  have HA4 := Lib.hid hi4
  have hby : Below w2.heap.size w2 w4 := hbx.trans (hb4.mono hbx.size)
  have HB4 := Lib.hid (HB2.out.trans (hby.mono HB2.out.size))
  have hS2 : (fun w' => w'.cell? ⟨bF, 0, none⟩ = some (.int .i64 Q) ∧ w'.cell? ⟨bF, 1, none⟩ = some (.int .i64 V) ∧ w'.cell? ⟨bF, 2, none⟩ = some (.int .i64 O) ∧ w'.cell? ⟨w.heap.size, 0, none⟩ = some (.int .i64 k1) ∧ w'.cell? ⟨w.heap.size, 1, none⟩ = some (.int .i64 m) ∧ w'.cell? ⟨w.heap.size, 2, none⟩ = some (.int .i64 r1) ∧ w'.cell? ⟨w.heap.size, 3, none⟩ = some (.slice A1 q1.len c1)) w4 := ⟨keep_cell hby t0, keep_cell hby t1, keep_cell hby t2, keep_cell hby p0, keep_cell hby p1, keep_cell hby p2, keep_cell hby p3⟩
  refine hK.out _ _ (fun _ => hS2) ?_
  clear hK K
  try simp only [List.getElem_toArray, List.getElem_cons_zero, List.getElem_cons_succ, Act.put, List.setIfInBounds_toArray, List.set_cons_zero, List.set_cons_succ]
  refine wpAnyS_take (i := 8) (v := ?_) (by kernel_rfl) rfl (fun _ _ _ h => h) rfl hS2 (fun w hSw => by (try dsimp only at hSw); go_simp; try with_reducible rfl) ?_
  try simp only [List.getElem_toArray, List.getElem_cons_zero, List.getElem_cons_succ, Act.put, List.setIfInBounds_toArray, List.set_cons_zero, List.set_cons_succ]
  refine wpAnyS_take (i := 9) (v := ?_) (by kernel_rfl) rfl (fun _ _ _ h => h) rfl hS2 (fun w hSw => by (try dsimp only at hSw); go_simp; try with_reducible rfl) ?_
  try simp only [List.getElem_toArray, List.getElem_cons_zero, List.getElem_cons_succ, Act.put, List.setIfInBounds_toArray, List.set_cons_zero, List.set_cons_succ]
  refine wpAnyS_take (i := 10) (v := ?_) (by kernel_rfl) rfl (fun _ _ _ h => h) rfl hS2 (fun w hSw => by (try dsimp only at hSw); go_simp; try with_reducible rfl) ?_
  try simp only [List.getElem_toArray, List.getElem_cons_zero, List.getElem_cons_succ, Act.put, List.setIfInBounds_toArray, List.set_cons_zero, List.set_cons_succ]
  refine wpAnyS_take (i := 11) (v := ?_) (by kernel_rfl) rfl (fun _ _ _ h => h) rfl hS2 (fun w hSw => by (try dsimp only at hSw); go_simp; try with_reducible rfl) ?_
  try simp only [List.getElem_toArray, List.getElem_cons_zero, List.getElem_cons_succ, Act.put, List.setIfInBounds_toArray, List.set_cons_zero, List.set_cons_succ]
  refine wpAnyS_end 1 12 (by kernel_rfl) (by decide) rfl ?_
  simp only [List.toList_toArray, List.drop_succ_cons, List.drop_zero]
  have HT4 := Lib.hid (HT2.out.below hby)
  have HP4 := Lib.hid (HP22.out.below hby)
  clear hS0 hS1 hS2 hbx hby hb3 hb4 hi3 hi4 t0 t1 t2 p0 p1 p2 p3 HR1
  go_upto_region 7 with (fail)
  obtain ⟨t0, t1, t2⟩ := HT4.out
  obtain ⟨p0, p1, p2, p3⟩ := HP4.out
  refine wp_region_S (fun w' => w'.cell? ⟨bF, 0, none⟩ = some (.int .i64 Q) ∧ w'.cell? ⟨bF, 1, none⟩ = some (.int .i64 V) ∧ w'.cell? ⟨bF, 2, none⟩ = some (.int .i64 O) ∧ w'.cell? ⟨w.heap.size + 1, 0, none⟩ = some (.int .i64 k2) ∧ w'.cell? ⟨w.heap.size + 1, 1, none⟩ = some (.int .i64 m) ∧ w'.cell? ⟨w.heap.size + 1, 2, none⟩ = some (.int .i64 r2) ∧ w'.cell? ⟨w.heap.size + 1, 3, none⟩ = some (.slice A2 q2.len c2)) 12 (by kernel_rfl) ?_
  have hS0 := (⟨t0, t1, t2, p0, p1, p2, p3⟩ : (fun w' => w'.cell? ⟨bF, 0, none⟩ = some (.int .i64 Q) ∧ w'.cell? ⟨bF, 1, none⟩ = some (.int .i64 V) ∧ w'.cell? ⟨bF, 2, none⟩ = some (.int .i64 O) ∧ w'.cell? ⟨w.heap.size + 1, 0, none⟩ = some (.int .i64 k2) ∧ w'.cell? ⟨w.heap.size + 1, 1, none⟩ = some (.int .i64 m) ∧ w'.cell? ⟨w.heap.size + 1, 2, none⟩ = some (.int .i64 r2) ∧ w'.cell? ⟨w.heap.size + 1, 3, none⟩ = some (.slice A2 q2.len c2)) w4.drew)
  refine wpAnyS_take (i := 0) (v := ?_) (by kernel_rfl) rfl (fun _ _ _ h => h) rfl hS0 (fun w hSw => by (try dsimp only at hSw); go_simp; try with_reducible rfl) ?_
  try simp only [List.getElem_toArray, List.getElem_cons_zero, List.getElem_cons_succ, Act.put, List.setIfInBounds_toArray, List.set_cons_zero, List.set_cons_succ]
  refine wpAnyS_take (i := 1) (v := ?_) (by kernel_rfl) rfl (fun _ _ _ h => h) rfl hS0 (fun w hSw => by (try dsimp only at hSw); go_simp; try with_reducible rfl) ?_
  try simp only [List.getElem_toArray, List.getElem_cons_zero, List.getElem_cons_succ, Act.put, List.setIfInBounds_toArray, List.set_cons_zero, List.set_cons_succ]
  refine wpAnyS_take (i := 2) (v := ?_) (by kernel_rfl) rfl (fun _ _ _ h => h) rfl hS0 (fun w hSw => by (try dsimp only at hSw); go_simp; try with_reducible rfl) ?_
  try simp only [List.getElem_toArray, List.getElem_cons_zero, List.getElem_cons_succ, Act.put, List.setIfInBounds_toArray, List.set_cons_zero, List.set_cons_succ]
  refine wpAnyS_take (i := 3) (v := ?_) (by kernel_rfl) rfl (fun _ _ _ h => h) rfl hS0 (fun w hSw => by (try dsimp only at hSw); go_simp; try with_reducible rfl) ?_
  try simp only [List.getElem_toArray, List.getElem_cons_zero, List.getElem_cons_succ, Act.put, List.setIfInBounds_toArray, List.set_cons_zero, List.set_cons_succ]
  refine wpAnyS_take (i := 4) (v := ?_) (by kernel_rfl) rfl (fun _ _ _ h => h) rfl hS0 (fun w hSw => by (try dsimp only at hSw); go_simp; try with_reducible rfl) ?_
  try simp only [List.getElem_toArray, List.getElem_cons_zero, List.getElem_cons_succ, Act.put, List.setIfInBounds_toArray, List.set_cons_zero, List.set_cons_succ]
  refine wpAnyS_take (i := 6) (v := ?_) (by kernel_rfl) rfl (fun _ _ _ h => h) rfl hS0 (fun w hSw => by (try dsimp only at hSw); go_simp; try with_reducible rfl) ?_
  try simp only [List.getElem_toArray, List.getElem_cons_zero, List.getElem_cons_succ, Act.put, List.setIfInBounds_toArray, List.set_cons_zero, List.set_cons_succ]
  refine wpAnyS_one (i := 5) (by kernel_rfl) rfl rfl (fun K hK => ?_)
  go_simp
  refine (HEL.out _ (HI.out.keep HB4.out.drew)).mono ?_
  rintro z w5 ⟨g5, rfl, hi5, hb5⟩
  have hbx : Below w4.heap.size w4 w5 := (Below.refl _ w4).drew.trans hb5
  have HI5 := Lib.hid hi5
  have HB5 := Lib.hid (HB4.out.trans (hbx.mono HB4.out.size))
  have hS1 : (fun w' => w'.cell? ⟨bF, 0, none⟩ = some (.int .i64 Q) ∧ w'.cell? ⟨bF, 1, none⟩ = some (.int .i64 V) ∧ w'.cell? ⟨bF, 2, none⟩ = some (.int .i64 O) ∧ w'.cell? ⟨w.heap.size + 1, 0, none⟩ = some (.int .i64 k2) ∧ w'.cell? ⟨w.heap.size + 1, 1, none⟩ = some (.int .i64 m) ∧ w'.cell? ⟨w.heap.size + 1, 2, none⟩ = some (.int .i64 r2) ∧ w'.cell? ⟨w.heap.size + 1, 3, none⟩ = some (.slice A2 q2.len c2)) w5 := ⟨keep_cell hbx t0, keep_cell hbx t1, keep_cell hbx t2, keep_cell hbx p0, keep_cell hbx p1, keep_cell hbx p2, keep_cell hbx p3⟩
  refine hK.out _ _ (fun _ => hS1) ?_
  clear hK K
  try simp only [List.getElem_toArray, List.getElem_cons_zero, List.getElem_cons_succ, Act.put, List.setIfInBounds_toArray, List.set_cons_zero, List.set_cons_succ]
  refine wpAnyS_one (i := 7) (by kernel_rfl) rfl rfl (fun K hK => ?_)
  go_simp
  refine (HR2.out w5 g5 (HK2.out.below HB5.out) HI5.out).mono ?_
  rintro z w6 ⟨g6, rfl, -, hi6, hb6⟩
  have HA6b := Lib.hid hi6
  have hby : Below w4.heap.size w4 w6 := hbx.trans (hb6.mono hbx.size)
  have HB6 := Lib.hid (HB4.out.trans (hby.mono HB4.out.size))
  have hS2 : (fun w' => w'.cell? ⟨bF, 0, none⟩ = some (.int .i64 Q) ∧ w'.cell? ⟨bF, 1, none⟩ = some (.int .i64 V) ∧ w'.cell? ⟨bF, 2, none⟩ = some (.int .i64 O) ∧ w'.cell? ⟨w.heap.size + 1, 0, none⟩ = some (.int .i64 k2) ∧ w'.cell? ⟨w.heap.size + 1, 1, none⟩ = some (.int .i64 m) ∧ w'.cell? ⟨w.heap.size + 1, 2, none⟩ = some (.int .i64 r2) ∧ w'.cell? ⟨w.heap.size + 1, 3, none⟩ = some (.slice A2 q2.len c2)) w6 := ⟨keep_cell hby t0, keep_cell hby t1, keep_cell hby t2, keep_cell hby p0, keep_cell hby p1, keep_cell hby p2, keep_cell hby p3⟩
  refine hK.out _ _ (fun _ => hS2) ?_
  clear hK K
  try simp only [List.getElem_toArray, List.getElem_cons_zero, List.getElem_cons_succ, Act.put, List.setIfInBounds_toArray, List.set_cons_zero, List.set_cons_succ]
  refine wpAnyS_take (i := 8) (v := ?_) (by kernel_rfl) rfl (fun _ _ _ h => h) rfl hS2 (fun w hSw => by (try dsimp only at hSw); go_simp; try with_reducible rfl) ?_
  try simp only [List.getElem_toArray, List.getElem_cons_zero, List.getElem_cons_succ, Act.put, List.setIfInBounds_toArray, List.set_cons_zero, List.set_cons_succ]
  refine wpAnyS_take (i := 9) (v := ?_) (by kernel_rfl) rfl (fun _ _ _ h => h) rfl hS2 (fun w hSw => by (try dsimp only at hSw); go_simp; try with_reducible rfl) ?_
  try simp only [List.getElem_toArray, List.getElem_cons_zero, List.getElem_cons_succ, Act.put, List.setIfInBounds_toArray, List.set_cons_zero, List.set_cons_succ]
  refine wpAnyS_take (i := 10) (v := ?_) (by kernel_rfl) rfl (fun _ _ _ h => h) rfl hS2 (fun w hSw => by (try dsimp only at hSw); go_simp; try with_reducible rfl) ?_
  try simp only [List.getElem_toArray, List.getElem_cons_zero, List.getElem_cons_succ, Act.put, List.setIfInBounds_toArray, List.set_cons_zero, List.set_cons_succ]
  refine wpAnyS_take (i := 11) (v := ?_) (by kernel_rfl) rfl (fun _ _ _ h => h) rfl hS2 (fun w hSw => by (try dsimp only at hSw); go_simp; try with_reducible rfl) ?_
  try simp only [List.getElem_toArray, List.getElem_cons_zero, List.getElem_cons_succ, Act.put, List.setIfInBounds_toArray, List.set_cons_zero, List.set_cons_succ]
  refine wpAnyS_end 1 12 (by kernel_rfl) (by decide) rfl ?_
  simp only [List.toList_toArray, List.drop_succ_cons, List.drop_zero]
  have HA6 := Lib.hid (HA4.out.keep hby)
  clear hS0 hS1 hS2 hbx hby hb5 hb6 hi5 hi6 t0 t1 t2 p0 p1 p2 p3 HR2 HEL
  have heq := Equal_any (some ⟨g4, 0, none⟩) (some ⟨g6, 0, none⟩) m m m m _ _ w6 HA6.out HA6b.out (by omega) (by omega)
  rw [show sameB2 m m (fun j => ((rdF Q V O m s (remF Q f) j : Nat) : Int)) (fun j => ((rdF Q V O m s (remF Q f) j : Nat) : Int)) = true from decide_eq_true ⟨rfl, fun _ _ => rfl⟩] at heq
  have HEQ := Lib.hid heq
  clear heq
  go_wp2_with fail
  refine HEQ.out.mono ?_
  rintro z w7 ⟨rfl, hq7⟩
  have HB7 := Lib.hid (HB6.out.trans (hq7.below.mono HB6.out.size))
  clear hq7 HEQ
  go_wp2
  go_ret2
  exact ⟨rfl, HB7.out⟩
end Go.Proofs.Yteaimnemobnknaa
