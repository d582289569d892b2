/- The contract of the document's Agree. -/
import Derived.Test.YteaimnemobnknaaM10
import Derived.Test.YteaimnemobnknaaML2
set_option linter.unusedSimpArgs false
set_option linter.unusedVariables false
namespace Go.Proofs.Yteaimnemobnknaa
open Go.RowKit Go.Lib

set_option maxRecDepth 100000 in
set_option maxHeartbeats 8000000 in
theorem RAgree_any (k1 r1 : Int) (q1 : Fo) (k2 r2 : Int) (q2 : Fo) (N : Nat) (hc1 : q1.count ≤ 549755813888) (hc2 : q2.count ≤ 549755813888) (ck1 : checkE k1 N r1 q1 N = 0) (ck2 : checkE k2 N r2 q2 N = 0) (w : World) (A1 A2 : Option Addr) (c1 c2 : Nat) (hk1 : Kids w A1 0 q1) (hk2 : Kids w A2 0 q2)
    (h1 : (ordR k1 N r1 q1).2 = 0 → 1 ≤ (ordR k1 N r1 q1).1 ∧ (ordR k1 N r1 q1).1 ≤ 1099511627776) (h2 : (ordR k2 N r2 q2).2 = 0 → 1 ≤ (ordR k2 N r2 q2).1 ∧ (ordR k2 N r2 q2).1 ≤ 1099511627776) (m : Nat) (s : Int) :
    Calls Try.prog 43 #[plV k1 N r1 A1 q1.len c1, plV k2 N r2 A2 q2.len c2, .int .i64 m, .int .i64 s] w (Ret w (.tuple #[.int .i64 (agreeE (ordR k1 N r1 q1) (ordR k2 N r2 q2) N m s), .bool (decide ((bothR (ordR k1 N r1 q1) (ordR k2 N r2 q2)).2 = 0 ∧ 4294967296 < (bothR (ordR k1 N r1 q1) (ordR k2 N r2 q2)).1))])) := by
  have HO1 := Lib.hid (fun w h => ROrder_any k1 N r1 q1 hc1 w A1 c1 h)
  have HO2 := Lib.hid (fun w h => ROrder_any k2 N r2 q2 hc2 w A2 c2 h)
  have hM1 := fun w h => May_any k1 N r1 q1 m s hc1 w A1 c1 h
  have hM2 := fun w h => May_any k2 N r2 q2 m s hc2 w A2 c2 h
  rw [runE_len ck1] at hM1
  rw [runE_len ck2] at hM2
  have HM1 := Lib.hid hM1
  have HM2 := Lib.hid hM2
  have HK1 := Lib.hid hk1
  have HK2 := Lib.hid hk2
  unfold agreeE
  obtain ⟨l, hl⟩ : ∃ l, lenE N m s = l := ⟨_, rfl⟩
  rw [hl] at HM1 HM2 ⊢
  obtain ⟨⟨o1, e1⟩, hO1⟩ : ∃ R, ordR k1 N r1 q1 = R := ⟨_, rfl⟩
  obtain ⟨⟨o2, e2⟩, hO2⟩ : ∃ R, ordR k2 N r2 q2 = R := ⟨_, rfl⟩
  rw [hO1] at HO1 h1 ⊢
  rw [hO2] at HO2 h2 ⊢
  dsimp only at HO1 HO2 h1 h2
  obtain ⟨⟨L, E⟩, hBB⟩ : ∃ B, bothR (o1, e1) (o2, e2) = B := ⟨_, rfl⟩
  rw [hBB]
  have HBB := Lib.hid hBB
  dsimp only
  obtain ⟨T, hT⟩ : ∃ T, (if E ≠ 0 then E else l) = T := ⟨_, rfl⟩
  rw [hT]
  have HT := Lib.hid hT
  obtain ⟨G, hG⟩ : ∃ G, decide (E = 0 ∧ 4294967296 < L) = G := ⟨_, rfl⟩
  rw [hG]
  have HG := Lib.hid hG
  have H1 := Lib.hid h1
  have H2 := Lib.hid h2
  obtain ⟨W0, hW0⟩ : ∃ W0, W0 = (w.alloc (.cells #[.int .i64 k1, .int .i64 N, .int .i64 r1, .slice A1 q1.len c1] 29)).alloc (.cells #[.int .i64 k2, .int .i64 N, .int .i64 r2, .slice A2 q2.len c2] 29) := ⟨_, rfl⟩
  have hb0 : Below w.heap.size w W0 := by rw [hW0]; exact ((Below.refl _ w).alloc (Nat.le_refl _) _).alloc (by simp) _
  have hp1 : PlBox W0 w.heap.size k1 N r1 A1 q1.len c1 := by
    rw [hW0]
    exact (PlBox.new w k1 N r1 A1 q1.len c1 _).below ((Below.refl _ _).alloc (Nat.le_refl _) _)
  have hp2 : PlBox W0 (w.heap.size + 1) k2 N r2 A2 q2.len c2 := by
    rw [hW0]
    have := PlBox.new (w.alloc (.cells #[.int .i64 k1, .int .i64 N, .int .i64 r1, .slice A1 q1.len c1] 29)) k2 N r2 A2 q2.len c2 29
    simp only [World.size_alloc] at this
    exact this
  have HB0 := Lib.hid hb0
  have HP1 := Lib.hid hp1
  have HP2 := Lib.hid hp2
  obtain ⟨p0, p1, p2, p3⟩ := hp1
  clear hk1 hk2 hb0 hp2 hO1 hO2 h1 h2 hBB hT hG hl ck1 ck2 hM1 hM2 hc1 hc2
  go_enter Try.func43, Try.ntmps43
  go_wp2_with fail
  try rw [← hW0]
  refine (HO1.out W0 (HK1.out.below HB0.out)).mono ?_
  rintro z w1 ⟨rfl, hb1⟩
  have HB1 := Lib.hid (HB0.out.trans (hb1.mono HB0.out.size))
  have HP11 := Lib.hid (HP1.out.below hb1)
  have HP21 := Lib.hid (HP2.out.below hb1)
  clear hb1 hW0 HO1 HB0 HP1 HP2 p0 p1 p2 p3
  obtain ⟨p0, p1, p2, p3⟩ := HP21.out
  by_cases he1 : e1 = 0
  case neg =>
    have heb : (e1 == 0) = false := by simpa using he1
    obtain rfl : E = e1 := by have := HBB.out; unfold bothR at this; rw [if_pos he1] at this; exact (congrArg Prod.snd this).symm
    obtain rfl : T = E := by have := HT.out; rw [if_pos he1] at this; exact this.symm
    obtain rfl : G = false := by rw [← HG.out]; exact decide_eq_false (fun h => he1 h.1)
    go_wp2
    go_ret2
    exact ⟨rfl, HB1.out⟩
  subst he1
  go_wp2_with fail
  refine (HO2.out w1 (HK2.out.below HB1.out)).mono ?_
  rintro z w2 ⟨rfl, hb2⟩
  have HB2 := Lib.hid (HB1.out.trans (hb2.mono HB1.out.size))
  have HP12 := Lib.hid (HP11.out.below hb2)
  have HP22 := Lib.hid (HP21.out.below hb2)
  clear hb2 HO2 HB1 HP11 HP21 p0 p1 p2 p3
  by_cases he2 : e2 = 0
  case neg =>
    have heb : (e2 == 0) = false := by simpa using he2
    obtain rfl : E = e2 := by have := HBB.out; unfold bothR at this; dsimp only at this; rw [if_neg (show ¬ (0 : Int) ≠ 0 by decide), if_pos he2] at this; exact (congrArg Prod.snd this).symm
    obtain rfl : T = E := by have := HT.out; rw [if_pos he2] at this; exact this.symm
    obtain rfl : G = false := by rw [← HG.out]; exact decide_eq_false (fun h => he2 h.1)
    go_wp2
    go_ret2
    exact ⟨rfl, HB2.out⟩
  subst he2
  obtain ⟨x1, x2⟩ := H1.out (by first | exact rfl | trivial)
  obtain ⟨y1, y2⟩ := H2.out (by first | exact rfl | trivial)
  have HL := Lib.hid (fun w => RLcm_any o1 o2 1099511627776 x1 y1 (by omega) x2 y2 (by omega) w)
  obtain ⟨⟨lc, ok⟩, hlc⟩ : ∃ R, lcmF o1 o2 1099511627776 = R := ⟨_, rfl⟩
  have hB2 := HBB.out
  unfold bothR at hB2
  dsimp only at hB2
  rw [if_neg (show ¬ (0 : Int) ≠ 0 by decide), if_neg (show ¬ (0 : Int) ≠ 0 by decide)] at hB2
  rw [hlc] at HL hB2
  dsimp only at HL hB2
  go_wp2_with fail
  refine (HL.out _).mono ?_
  rintro z w3 ⟨rfl, rfl⟩
  clear HL hlc
  rcases ok with _ | _
  · rw [if_neg (by decide)] at hB2
    obtain rfl : E = 28 := (congrArg Prod.snd hB2).symm
    obtain rfl : T = 28 := by have := HT.out; rw [if_pos (by decide)] at this; exact this.symm
    obtain rfl : G = false := by rw [← HG.out]; exact decide_eq_false (fun h => absurd h.1 (by decide))
    clear hB2
    go_wp2
    go_ret2
    exact ⟨rfl, HB2.out⟩
  · rw [if_pos rfl] at hB2
    obtain ⟨rfl, rfl⟩ : L = lc ∧ E = 0 := ⟨(congrArg Prod.fst hB2).symm, (congrArg Prod.snd hB2).symm⟩
    obtain rfl : T = l := by have := HT.out; rw [if_neg (by decide)] at this; exact this.symm
    have hG2 : G = decide (4294967296 < L) := by rw [← HG.out]; by_cases h : 4294967296 < L <;> simp [h]
    have hGi : decide ((4294967296 : Int) < (L : Int)) = G := by rw [hG2]; by_cases h : 4294967296 < L <;> simp [h] <;> omega
    have HGI := Lib.hid hGi
    obtain ⟨p0, p1, p2, p3⟩ := HP12.out
    clear hB2 hG2 hGi
    go_wp2_with fail
    refine (HM1.out w2 (HK1.out.below HB2.out)).mono ?_
    rintro z w4 ⟨rfl, hb4⟩
    have HB4 := Lib.hid (HB2.out.trans (hb4.mono HB2.out.size))
    have HP24 := Lib.hid (HP22.out.below hb4)
    clear hb4 HM1 HB2 HP22 HP12 p0 p1 p2 p3
    obtain ⟨p0, p1, p2, p3⟩ := HP24.out
    by_cases hT0 : T = 0
    case neg =>
      have heb : (T == 0) = false := by simpa using hT0
      go_wp2
      go_ret2
      exact ⟨by rw [← HGI.out]; rfl, HB4.out⟩
    subst hT0
    go_wp2_with fail
    refine (HM2.out w4 (HK2.out.below HB4.out)).mono ?_
    rintro z w5 ⟨rfl, hb5⟩
    have HB5 := Lib.hid (HB4.out.trans (hb5.mono HB4.out.size))
    clear hb5 HM2 HB4
    go_wp2
    go_ret2
    exact ⟨by rw [← HGI.out]; rfl, HB5.out⟩
end Go.Proofs.Yteaimnemobnknaa
