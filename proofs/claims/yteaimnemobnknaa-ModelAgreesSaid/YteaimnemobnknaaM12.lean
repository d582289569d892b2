/- The walk of ModelAgrees. -/
import Derived.Test.YteaimnemobnknaaM11
import Derived.Test.YteaimnemobnknaaMM1
set_option linter.unusedSimpArgs false
set_option linter.unusedVariables false
namespace Go.Proofs.Yteaimnemobnknaa
open Go.RowKit Go.Lib

theorem ord_bd {kind n r : Int} {q : Fo} (h : (ordR kind n r q).2 = 0) : 1 ≤ (ordR kind n r q).1 ∧ (ordR kind n r q).1 ≤ 1099511627776 := by
  unfold ordR at h ⊢
  by_cases he : checkE kind n r q n = 0
  · rw [if_neg (by simp [he])] at h ⊢
    have hv := (check_valid he).1
    rcases ho : oroL ((kind, n, r) :: q.flat) 1 with _ | o
    · rw [ho] at h; exact absurd h (show ¬ (28 : Int) = 0 by decide)
    · have := oroL_le _ 1 o (by omega) (by omega) hv ho
      exact ⟨this.2, this.1⟩
  · rw [if_pos he] at h; exact absurd h he
theorem lcmF_lcm {a b m : Nat} (h : (lcmF a b m).2 = true) : (lcmF a b m).1 = Nat.lcm a b := by
  unfold lcmF at h ⊢
  split
  · rename_i hlt; rw [if_pos hlt] at h; cases h
  · show a * (b / Nat.gcd a b) = Nat.lcm a b
    unfold Nat.lcm
    rw [Nat.mul_div_assoc _ (Nat.gcd_dvd_right a b)]
theorem both_field {k1 r1 k2 r2 : Int} {n : Nat} {q1 q2 : Fo} (hn : n ≤ 100) (hg : ¬ ((bothR (ordR k1 n r1 q1) (ordR k2 n r2 q2)).2 = 0 ∧ 4294967296 < (bothR (ordR k1 n r1 q1) (ordR k2 n r2 q2)).1)) (h : (bothR (ordR k1 n r1 q1) (ordR k2 n r2 q2)).2 = 0) : ∃ Q, FieldQ (bothR (ordR k1 n r1 q1) (ordR k2 n r2 q2)).1 Q := by
  obtain ⟨ho1, ho2, -, -⟩ := both_dvd (fun h => (ord_bd h).1) (fun h => (ord_bd h).1) h
  have hle : (bothR (ordR k1 n r1 q1) (ordR k2 n r2 q2)).1 ≤ 4294967296 := by
    apply Classical.byContradiction
    intro hc
    exact hg ⟨h, by omega⟩
  have hm1 := ord_in hn ho1
  have hm2 := ord_in hn ho2
  have he : (bothR (ordR k1 n r1 q1) (ordR k2 n r2 q2)).1 = Nat.lcm (ordR k1 n r1 q1).1 (ordR k2 n r2 q2).1 := by
    rw [ho1, ho2] at h ⊢
    unfold bothR at h ⊢
    dsimp only at h ⊢
    rw [if_neg (by decide), if_neg (by decide)] at h ⊢
    by_cases hl : (lcmF (ordR k1 n r1 q1).1 (ordR k2 n r2 q2).1 1099511627776).2 = true
    · rw [if_pos hl]
      exact lcmF_lcm hl
    · rw [if_neg hl] at h; exact absurd h (by decide)
  rw [he] at hle ⊢
  exact pair_field hn hm1 hm2 hle
theorem bs_int3 (a b c : Int) (w : World) : (Instr.buildSlice 43 3 #[(0, .int .i64 a), (1, .int .i64 b), (2, .int .i64 c)]).run Try.prog w = .ok (.slice (some ⟨w.heap.size, 0, none⟩) 3 3) (w.alloc (.cells #[.int .i64 a, .int .i64 b, .int .i64 c] 3)) := by
  obtain ⟨i0, hi, hz0, hz1, hz2⟩ := info_parts info_int
  refine run_buildSlice w 43 3 3 _ #[.int .i64 a, .int .i64 b, .int .i64 c] i0 _ Try.underlying43 hi hz0 (by rw [hz1]; decide) (by rw [hz1]; decide) ?_
  rw [hz1]
  have hr : Array.range 1 = #[0] := by decide
  have hr3 : Array.range 3 = #[0, 1, 2] := by decide
  simp [Instr.fill, Value.cells, hr, hr3]

set_option maxRecDepth 100000 in
set_option maxHeartbeats 16000000 in
theorem MAgrees_any (a0 : Int) (b0 : -9223372036854775808 ≤ a0) (b1 : a0 ≤ 9223372036854775807) (A1 : Option Addr) (n1 c1 : Nat) (f1 : Nat → Int) (A2 : Option Addr) (n2 c2 : Nat) (f2 : Nat → Int) (Al : Option Addr) (nl cl : Nat) (l : Nat → Int) (w : World)
    (hI1 : IntsAt w A1 n1 f1) (hn1 : n1 ≤ 1125899906842624) (hI2 : IntsAt w A2 n2 f2) (hn2 : n2 ≤ 1125899906842624) (hL : IntsAt w Al nl l) (hR : Rng l) (hnl : nl ≤ 1125899906842624) :
    Calls Try.prog 12 #[.int .i64 a0, .agg #[.slice A1 n1 c1, .slice A2 n2 c2], .slice Al nl cl] w (Ret w (.bool true)) := by
  have HI1 := Lib.hid hI1
  have HI2 := Lib.hid hI2
  have HL := Lib.hid hL
  have HR := Lib.hid hR
  obtain ⟨W0, hW0⟩ : ∃ W0, W0 = w.alloc (.cells #[.slice A1 n1 c1, .slice A2 n2 c2] 53) := ⟨_, rfl⟩
  have hb0 : Below w.heap.size w W0 := by rw [hW0]; exact (Below.refl _ w).alloc (Nat.le_refl _) _
  have c0 : W0.cell? ⟨w.heap.size, 0, none⟩ = some (.slice A1 n1 c1) := by rw [hW0]; go_simp
  have c1' : W0.cell? ⟨w.heap.size, 1, none⟩ = some (.slice A2 n2 c2) := by rw [hW0]; go_simp
  have HB0 := Lib.hid hb0
  have HC1 := Lib.hid c1'
  clear hI1 hI2 hL hR hb0
  go_enter Try.func12, Try.ntmps12
  go_upto_region 1 with (fail)
  rw [← hW0]
  clear hW0
  go_cut [0] from 19 to 22 (fun s0 wx => ∃ n : Nat, 1 ≤ n ∧ n ≤ 100 ∧ s0 = .int .i64 n ∧ W0 = wx)
  case first =>
    have h0 := Int.emod_nonneg a0 (show (100 : Int) ≠ 0 by omega)
    have h1 := Int.emod_lt_of_pos a0 (show (0 : Int) < 100 by omega)
    by_cases hneg : a0 ≤ 0
    · go_wp2_with fail
      go_meet
      exact ⟨1, by omega, by omega, rfl, rfl⟩
    · have ht : a0.tmod 100 = a0 % 100 := Int.tmod_eq_emod_of_nonneg (by omega)
      obtain ⟨x, hx⟩ : ∃ x, a0 % 100 = x := ⟨_, rfl⟩
      rw [hx] at h0 h1 ht
      clear hx
      go_wp2_with fail
      go_meet
      exact ⟨(1 + x).toNat, by omega, by omega, by rw [Int.toNat_of_nonneg (by omega)], rfl⟩
  case rest =>
  obtain ⟨n, hm1, hm2, rfl, rfl⟩ := hcut
  apply_assumption
  have HPO1 := Lib.hid (planOf19 n hm1 (by omega) A1 n1 c1 f1 W0 (HI1.out.keep HB0.out) hn1)
  clear c1'
  go_wp2_with fail
  refine HPO1.out.mono ?_
  rintro z w2 ⟨k1, r1, q1, Bk1, ck1, rfl, hq, hkd, hb⟩
  have HQ1 := Lib.hid (show q1.count ≤ 549755813888 by omega)
  have BB2 : Hid (Below w.heap.size w w2) := Lib.hid (HB0.out.trans (hb.mono HB0.out.size))
  have K12 := Lib.hid hkd
  have c1' := keep_cell hb HC1.out
  clear HPO1 hb hkd hq c0 HC1
  go_upto_region 3 with (fail)
  obtain ⟨w3, hw⟩ : ∃ w3, w3 = w2.alloc (.cells #[.int .i64 k1, .int .i64 n, .int .i64 r1, .slice Bk1 q1.len ck1] 26) := ⟨_, rfl⟩
  have hb : Below w2.heap.size w2 w3 := by rw [hw]; exact (Below.refl _ w2).alloc (Nat.le_refl _) _
  have hp := PlBox.new w2 k1 n r1 Bk1 q1.len ck1 26
  rw [← hw] at hp ⊢
  obtain ⟨bP, hbP⟩ : ∃ bP, w2.heap.size = bP := ⟨_, rfl⟩
  rw [hbP] at hp ⊢
  have P13 := Lib.hid hp
  have K13 := Lib.hid (K12.out.below hb)
  have BB3 : Hid (Below w.heap.size w w3) := Lib.hid (BB2.out.trans (hb.mono BB2.out.size))
  replace c1' := keep_cell hb c1'
  clear hw hb hp hbP
  have HPO2 := Lib.hid (planOf19 n hm1 (by omega) A2 n2 c2 f2 w3 (HI2.out.keep BB3.out) hn2)
  go_wp2_with fail
  refine HPO2.out.mono ?_
  rintro z w4 ⟨k2, r2, q2, Bk2, ck2, rfl, hq, hkd, hb⟩
  have HQ2 := Lib.hid (show q2.count ≤ 549755813888 by omega)
  have BB4 : Hid (Below w.heap.size w w4) := Lib.hid (BB3.out.trans (hb.mono BB3.out.size))
  have K24 := Lib.hid hkd
  have P14 := Lib.hid (P13.out.below hb)
  have K14 := Lib.hid (K13.out.below hb)
  clear HPO2 hb hkd hq c1'
  go_upto_region 4 with (fail)
  obtain ⟨w5, hw⟩ : ∃ w5, w5 = w4.alloc (.cells #[.int .i64 k2, .int .i64 n, .int .i64 r2, .slice Bk2 q2.len ck2] 26) := ⟨_, rfl⟩
  have hb : Below w4.heap.size w4 w5 := by rw [hw]; exact (Below.refl _ w4).alloc (Nat.le_refl _) _
  have hp := PlBox.new w4 k2 n r2 Bk2 q2.len ck2 26
  rw [← hw] at hp ⊢
  obtain ⟨bQ, hbP⟩ : ∃ bP, w4.heap.size = bP := ⟨_, rfl⟩
  rw [hbP] at hp ⊢
  have HP2 := Lib.hid hp
  have HK2 := Lib.hid (K24.out.below hb)
  have HB6 : Hid (Below w.heap.size w w5) := Lib.hid (BB4.out.trans (hb.mono BB4.out.size))
  have HP1 := Lib.hid (P14.out.below hb)
  have HK1 := Lib.hid (K14.out.below hb)
  clear hw hb hp hbP
  have HWK := Lib.hid (fun w => wakes19 w)
  clear HB0 BB2 BB3 BB4 K12 K13 K14 K24 P13 P14
  by_cases he1 : checkE k1 n r1 q1 n = 0
  case neg =>
    have hdt : decide (checkE k1 n r1 q1 n = 0) = false := decide_eq_false he1
    rw [hdt]
    clear hdt he1
    obtain ⟨ee, hee⟩ : ∃ ee, decide (checkE k2 n r2 q2 n = 0) = ee := ⟨_, rfl⟩
    rw [hee]
    clear hee
    go_wp2_with fail
    refine (HWK.out _).mono ?_
    rintro z w7 ⟨rfl, hb⟩
    have BB7 : Hid (Below w.heap.size w w7) := Lib.hid (HB6.out.trans (hb.mono HB6.out.size))
    clear hb
    go_wp2_with fail
    refine (HWK.out _).mono ?_
    rintro z w8 ⟨rfl, hb⟩
    have BB8 : Hid (Below w.heap.size w w8) := Lib.hid (BB7.out.trans (hb.mono BB7.out.size))
    clear hb
    go_wp2
    go_ret
    exact ⟨rfl, BB8.out⟩
  have hdt1 : decide (checkE k1 n r1 q1 n = 0) = true := decide_eq_true he1
  rw [hdt1]
  have HE1 := Lib.hid he1
  clear hdt1 he1
  by_cases he2 : checkE k2 n r2 q2 n = 0
  case neg =>
    have hdt : decide (checkE k2 n r2 q2 n = 0) = false := decide_eq_false he2
    rw [hdt]
    clear hdt he2
    go_wp2_with fail
    refine (HWK.out _).mono ?_
    rintro z w7 ⟨rfl, hb⟩
    have BB7 : Hid (Below w.heap.size w w7) := Lib.hid (HB6.out.trans (hb.mono HB6.out.size))
    clear hb
    go_wp2_with fail
    refine (HWK.out _).mono ?_
    rintro z w8 ⟨rfl, hb⟩
    have BB8 : Hid (Below w.heap.size w w8) := Lib.hid (BB7.out.trans (hb.mono BB7.out.size))
    clear hb
    go_wp2
    go_ret
    exact ⟨rfl, BB8.out⟩
  have hdt2 : decide (checkE k2 n r2 q2 n = 0) = true := decide_eq_true he2
  rw [hdt2]
  have HE2 := Lib.hid he2
  clear hdt2 he2
  go_wp2_with fail
  refine (HWK.out _).mono ?_
  rintro z w6 ⟨rfl, hb⟩
  replace HK1 := Lib.hid (HK1.out.below hb)
  replace HK2 := Lib.hid (HK2.out.below hb)
  replace HP1 := Lib.hid (HP1.out.below hb)
  replace HP2 := Lib.hid (HP2.out.below hb)
  replace HB6 : Hid (Below w.heap.size w w6) := Lib.hid (HB6.out.trans (hb.mono HB6.out.size))
  have bsi := bs_int2
  have bsj := bs_int3
  clear hb HWK
  go_wp2_with fail
  obtain ⟨w7, hw7⟩ : ∃ w7, w7 = w6.alloc (.cells #[.int .i64 n, .int .i64 ((n : Int) + 1)] 3) := ⟨_, rfl⟩
  have hb7 : Below w6.heap.size w6 w7 := by rw [hw7]; exact (Below.refl _ w6).alloc (Nat.le_refl _) _
  have hs7 := ints_two w6 n ((n : Int) + 1) 3 w6.heap.size rfl
  rw [← hw7] at hs7
  obtain ⟨bR, hbR⟩ : ∃ bR, w6.heap.size = bR := ⟨_, rfl⟩
  rw [hbR] at hs7
  have HS7 := Lib.hid hs7
  replace HK1 := Lib.hid (HK1.out.below hb7)
  replace HK2 := Lib.hid (HK2.out.below hb7)
  replace HP1 := Lib.hid (HP1.out.below hb7)
  replace HP2 := Lib.hid (HP2.out.below hb7)
  replace HB6 : Hid (Below w.heap.size w w7) := Lib.hid (HB6.out.trans (hb7.mono HB6.out.size))
  clear hb7 hs7
  rw [← hw7]
  rw [hbR]
  clear hw7 hbR
  have HPR1 := Lib.hid (fun w h => (planRef_all19 (.cons k1 n r1 q1 .nil)).1 HQ1.out w Bk1 ck1 h)
  have HPR2 := Lib.hid (fun w h => (planRef_all19 (.cons k2 n r2 q2 .nil)).1 HQ2.out w Bk2 ck2 h)
  have HRA := Lib.hid (fun (m : Nat) (s : Int) (w : World) (B4 B5 : Option Addr) (c4 c5 : Nat) (ha : Kids w B4 0 q1) (hb : Kids w B5 0 q2) => RAgree_any k1 r1 q1 k2 r2 q2 n HQ1.out HQ2.out HE1.out HE2.out w B4 B5 c4 c5 ha hb (fun h => ord_bd h) (fun h => ord_bd h) m s)
  have HLI := Lib.hid (fun (m : Nat) (hm : m ≤ 1048576) w h => list19 Al nl cl m l w h hnl hm)
  have HAG0 := Lib.hid (fun (hg : ¬ ((bothR (ordR k1 n r1 q1) (ordR k2 n r2 q2)).2 = 0 ∧ 4294967296 < (bothR (ordR k1 n r1 q1) (ordR k2 n r2 q2)).1)) (s : Int) (m : Nat) (hm : m ≤ 1048576) (w : World) (g : Nat) (ha : Kids w Bk1 0 q1) (hb : Kids w Bk2 0 q2) (hx : IntsAt w (some ⟨g, 0, none⟩) m (listF nl l)) => Agree_any k1 r1 q1 k2 r2 q2 n hm1 (by omega) HQ1.out HQ2.out HE1.out HE2.out w Bk1 Bk2 ck1 ck2 ha hb (fun h => ord_bd h) (fun h => ord_bd h) (fun h => both_field hm2 hg h) (some ⟨g, 0, none⟩) m m (listF nl l) hx (listF_rng HR.out) hm s)
  obtain ⟨GR, hGR⟩ : ∃ GR, decide ((bothR (ordR k1 n r1 q1) (ordR k2 n r2 q2)).2 = 0 ∧ 4294967296 < (bothR (ordR k1 n r1 q1) (ordR k2 n r2 q2)).1) = GR := ⟨_, rfl⟩
  rw [hGR] at HRA
  have HAG : Hid (GR = false → ∀ (s : Int) (m : Nat) (hm : m ≤ 1048576) (w : World) (g : Nat) (ha : Kids w Bk1 0 q1) (hb : Kids w Bk2 0 q2) (hx : IntsAt w (some ⟨g, 0, none⟩) m (listF nl l)), Calls Try.prog 44 #[plV k1 n r1 Bk1 q1.len ck1, plV k2 n r2 Bk2 q2.len ck2, .slice (some ⟨g, 0, none⟩) m m, .int .i64 s] w (Ret w (.tuple #[.bool (decide (agreeE (ordR k1 n r1 q1) (ordR k2 n r2 q2) n m s = 0)), .int .i64 (agreeE (ordR k1 n r1 q1) (ordR k2 n r2 q2) n m s)]))) := Lib.hid (fun h => HAG0.out (of_decide_eq_false (by rw [hGR]; exact h)))
  obtain ⟨AE, hAE⟩ : ∃ AE : Nat → Int → Int, AE = fun m s => agreeE (ordR k1 n r1 q1) (ordR k2 n r2 q2) n m s := ⟨_, rfl⟩
  have hAE2 : ∀ m s, agreeE (ordR k1 n r1 q1) (ordR k2 n r2 q2) n m s = AE m s := fun m s => by rw [hAE]
  simp only [hAE2] at HRA HAG
  clear HAG0 hGR hAE hAE2
  go_loopw [12, 14, 15, 16, 17, 18, 53] (fun v12 v14 v15 v16 v17 v18 v53 wr => ∃ i : Nat, i ≤ 2 ∧ v53 = .int .i64 i ∧ Hid (Below w7.heap.size w7 wr)) (fun _ _ _ _ _ _ v53 _ => 2 - (intOf v53).toNat)
  case atStart => exact ⟨0, by omega, rfl, Lib.hid (Below.refl _ _)⟩
  case round =>
    obtain ⟨i, hi, rfl, hbo⟩ := hrel
    obtain ⟨wo, hwo⟩ : ∃ wo, wo = wr := ⟨_, rfl⟩
    subst hwo
    by_cases hlt : i < 2
    · obtain ⟨m, hm, hmm⟩ : ∃ m : Nat, [(n : Int), (n : Int) + 1].getD i 0 = (m : Int) ∧ m ≤ 101 := by
        rcases (show i = 0 ∨ i = 1 by omega) with rfl | rfl
        · exact ⟨n, rfl, by omega⟩
        · exact ⟨n + 1, rfl, by omega⟩
      have hli : (i : Int) < 2 := by omega
      obtain ⟨b1', o1', e1', hsc0⟩ := HS7.out.keep hbo.out i hlt
      injection e1' with e1'
      injection e1' with e2' e3'
      subst e2' e3'
      have hsc : wo.cell? ⟨bR, 0 + i, none⟩ = some (.int .i64 (m : Int)) := by rw [← hm]; exact hsc0
      rw [Nat.zero_add] at hsc
      clear hm hsc0
      go_wp2_with fail
      obtain ⟨w8, hw8⟩ : ∃ w8, w8 = wo.alloc (.cells #[.int .i64 1, .int .i64 (-1), .int .i64 0] 3) := ⟨_, rfl⟩
      have hb8 : Below wo.heap.size wo w8 := by rw [hw8]; exact (Below.refl _ wo).alloc (Nat.le_refl _) _
      have hs8 := ints64_three wo 1 (-1) 0 3 wo.heap.size rfl
      rw [← hw8] at hs8
      obtain ⟨bS, hbS⟩ : ∃ bS, wo.heap.size = bS := ⟨_, rfl⟩
      rw [hbS] at hs8
      have HS8 := Lib.hid hs8
      have HW8 : Hid (Below w7.heap.size w7 w8) := Lib.hid (hbo.out.trans (hb8.mono hbo.out.size))
      clear hb8 hs8 hsc
      rw [← hw8]
      rw [hbS]
      clear hw8 hbS
      go_loopw [14, 15, 16, 17, 18, 59] (fun v14 v15 v16 v17 v18 v59 wr => ∃ j : Nat, j ≤ 3 ∧ v59 = .int .i64 j ∧ Hid (Below w7.heap.size w7 wr) ∧ Hid (IntsAt wr (some ⟨bS, 0, none⟩) 3 (fun i => [1, -1, 0].getD i 0))) (fun _ _ _ _ _ v59 _ => 3 - (intOf v59).toNat)
      case atStart => exact ⟨0, by omega, rfl, HW8, HS8⟩
      case round =>
        clear HW8 HS8
        obtain ⟨j, hj, rfl, hbw, hss⟩ := hrel
        by_cases hltj : j < 3
        · obtain ⟨s, hs⟩ : ∃ s : Int, [(1 : Int), -1, 0].getD j 0 = s := ⟨_, rfl⟩
          have hlj : (j : Int) < 3 := by omega
          obtain ⟨b1', o1', e1', hsc0⟩ := hss.out j hltj
          injection e1' with e1'
          injection e1' with e2' e3'
          subst e2' e3'
          have hsc : wr.cell? ⟨bS, 0 + j, none⟩ = some (.int .i64 s) := by rw [← hs]; exact hsc0
          rw [Nat.zero_add] at hsc
          clear hs hsc0
          go_upto_region 12 with (fail)
          obtain ⟨p0, p1, p2, p3⟩ := HP1.out.below hbw.out
          obtain ⟨s0, s1, s2, s3⟩ := HP2.out.below hbw.out
          refine wp_region_S (fun w' => w'.cell? ⟨bP, 0, none⟩ = some (.int .i64 k1) ∧ w'.cell? ⟨bP, 1, none⟩ = some (.int .i64 n) ∧ w'.cell? ⟨bP, 2, none⟩ = some (.int .i64 r1) ∧ w'.cell? ⟨bP, 3, none⟩ = some (.slice Bk1 q1.len ck1) ∧ w'.cell? ⟨bQ, 0, none⟩ = some (.int .i64 k2) ∧ w'.cell? ⟨bQ, 1, none⟩ = some (.int .i64 n) ∧ w'.cell? ⟨bQ, 2, none⟩ = some (.int .i64 r2) ∧ w'.cell? ⟨bQ, 3, none⟩ = some (.slice Bk2 q2.len ck2)) 11 (by kernel_rfl) ?_
          have hS0 := (⟨p0, p1, p2, p3, s0, s1, s2, s3⟩ : (fun w' => w'.cell? ⟨bP, 0, none⟩ = some (.int .i64 k1) ∧ w'.cell? ⟨bP, 1, none⟩ = some (.int .i64 n) ∧ w'.cell? ⟨bP, 2, none⟩ = some (.int .i64 r1) ∧ w'.cell? ⟨bP, 3, none⟩ = some (.slice Bk1 q1.len ck1) ∧ w'.cell? ⟨bQ, 0, none⟩ = some (.int .i64 k2) ∧ w'.cell? ⟨bQ, 1, none⟩ = some (.int .i64 n) ∧ w'.cell? ⟨bQ, 2, none⟩ = some (.int .i64 r2) ∧ w'.cell? ⟨bQ, 3, none⟩ = some (.slice Bk2 q2.len ck2)) wr.drew)
          refine wpAnyS_take (i := 0) (v := ?_) (by kernel_rfl) rfl (fun _ _ _ h => h) rfl hS0 (fun w hSw => by (try dsimp only at hSw); go_simp; try with_reducible rfl) ?_
          try simp only [List.getElem_toArray, List.getElem_cons_zero, List.getElem_cons_succ, Act.put, List.setIfInBounds_toArray, List.set_cons_zero, List.set_cons_succ]
          refine wpAnyS_take (i := 2) (v := ?_) (by kernel_rfl) rfl (fun _ _ _ h => h) rfl hS0 (fun w hSw => by (try dsimp only at hSw); go_simp; try with_reducible rfl) ?_
          try simp only [List.getElem_toArray, List.getElem_cons_zero, List.getElem_cons_succ, Act.put, List.setIfInBounds_toArray, List.set_cons_zero, List.set_cons_succ]
          refine wpAnyS_take (i := 4) (v := ?_) (by kernel_rfl) rfl (fun _ _ _ h => h) rfl hS0 (fun w hSw => by (try dsimp only at hSw); go_simp; try with_reducible rfl) ?_
          try simp only [List.getElem_toArray, List.getElem_cons_zero, List.getElem_cons_succ, Act.put, List.setIfInBounds_toArray, List.set_cons_zero, List.set_cons_succ]
          refine wpAnyS_take (i := 5) (v := ?_) (by kernel_rfl) rfl (fun _ _ _ h => h) rfl hS0 (fun w hSw => by (try dsimp only at hSw); go_simp; try with_reducible rfl) ?_
          try simp only [List.getElem_toArray, List.getElem_cons_zero, List.getElem_cons_succ, Act.put, List.setIfInBounds_toArray, List.set_cons_zero, List.set_cons_succ]
          refine wpAnyS_one (i := 1) (by kernel_rfl) rfl rfl (fun K hK => ?_)
          go_simp
          refine (HPR1.out _ (HK1.out.below hbw.out.drew)).mono ?_
          rintro z wA ⟨B4, c4, rfl, hkyA, hbA⟩
          have hrA : Below wr.heap.size wr wA := (Below.refl _ wr).drew.trans hbA
          have hS1 : (fun w' => w'.cell? ⟨bP, 0, none⟩ = some (.int .i64 k1) ∧ w'.cell? ⟨bP, 1, none⟩ = some (.int .i64 n) ∧ w'.cell? ⟨bP, 2, none⟩ = some (.int .i64 r1) ∧ w'.cell? ⟨bP, 3, none⟩ = some (.slice Bk1 q1.len ck1) ∧ w'.cell? ⟨bQ, 0, none⟩ = some (.int .i64 k2) ∧ w'.cell? ⟨bQ, 1, none⟩ = some (.int .i64 n) ∧ w'.cell? ⟨bQ, 2, none⟩ = some (.int .i64 r2) ∧ w'.cell? ⟨bQ, 3, none⟩ = some (.slice Bk2 q2.len ck2)) wA := ⟨keep_cell hrA p0, keep_cell hrA p1, keep_cell hrA p2, keep_cell hrA p3, keep_cell hrA s0, keep_cell hrA s1, keep_cell hrA s2, keep_cell hrA s3⟩
          refine hK.out _ _ (fun _ => hS1) ?_
          clear hK K
          try simp only [List.getElem_toArray, List.getElem_cons_zero, List.getElem_cons_succ, Act.put, List.setIfInBounds_toArray, List.set_cons_zero, List.set_cons_succ]
          refine wpAnyS_one (i := 3) (by kernel_rfl) rfl rfl (fun K hK => ?_)
          go_simp
          refine (HPR2.out wA (HK2.out.below (hbw.out.trans (hrA.mono hbw.out.size)))).mono ?_
          rintro z wB ⟨B5, c5, rfl, hkyB, hbB⟩
          have hrB : Below wr.heap.size wr wB := hrA.trans (hbB.mono hrA.size)
          have hS2 : (fun w' => w'.cell? ⟨bP, 0, none⟩ = some (.int .i64 k1) ∧ w'.cell? ⟨bP, 1, none⟩ = some (.int .i64 n) ∧ w'.cell? ⟨bP, 2, none⟩ = some (.int .i64 r1) ∧ w'.cell? ⟨bP, 3, none⟩ = some (.slice Bk1 q1.len ck1) ∧ w'.cell? ⟨bQ, 0, none⟩ = some (.int .i64 k2) ∧ w'.cell? ⟨bQ, 1, none⟩ = some (.int .i64 n) ∧ w'.cell? ⟨bQ, 2, none⟩ = some (.int .i64 r2) ∧ w'.cell? ⟨bQ, 3, none⟩ = some (.slice Bk2 q2.len ck2)) wB := ⟨keep_cell hrB p0, keep_cell hrB p1, keep_cell hrB p2, keep_cell hrB p3, keep_cell hrB s0, keep_cell hrB s1, keep_cell hrB s2, keep_cell hrB s3⟩
          refine hK.out _ _ (fun _ => hS2) ?_
          clear hK K
          try simp only [List.getElem_toArray, List.getElem_cons_zero, List.getElem_cons_succ, Act.put, List.setIfInBounds_toArray, List.set_cons_zero, List.set_cons_succ]
          refine wpAnyS_one (i := 6) (by kernel_rfl) rfl rfl (fun K hK => ?_)
          go_simp
          refine (HRA.out m s wB B4 B5 c4 c5 (hkyA.kids.below hbB) hkyB.kids).mono ?_
          rintro z wC ⟨rfl, hbC⟩
          have hrC : Below wr.heap.size wr wC := hrB.trans (hbC.mono hrB.size)
          have hS3 : (fun w' => w'.cell? ⟨bP, 0, none⟩ = some (.int .i64 k1) ∧ w'.cell? ⟨bP, 1, none⟩ = some (.int .i64 n) ∧ w'.cell? ⟨bP, 2, none⟩ = some (.int .i64 r1) ∧ w'.cell? ⟨bP, 3, none⟩ = some (.slice Bk1 q1.len ck1) ∧ w'.cell? ⟨bQ, 0, none⟩ = some (.int .i64 k2) ∧ w'.cell? ⟨bQ, 1, none⟩ = some (.int .i64 n) ∧ w'.cell? ⟨bQ, 2, none⟩ = some (.int .i64 r2) ∧ w'.cell? ⟨bQ, 3, none⟩ = some (.slice Bk2 q2.len ck2)) wC := ⟨keep_cell hrC p0, keep_cell hrC p1, keep_cell hrC p2, keep_cell hrC p3, keep_cell hrC s0, keep_cell hrC s1, keep_cell hrC s2, keep_cell hrC s3⟩
          refine hK.out _ _ (fun _ => hS3) ?_
          clear hK K
          try simp only [List.getElem_toArray, List.getElem_cons_zero, List.getElem_cons_succ, Act.put, List.setIfInBounds_toArray, List.set_cons_zero, List.set_cons_succ]
          refine wpAnyS_take (i := 7) (v := ?_) (by kernel_rfl) rfl (fun _ _ _ h => h) rfl hS3 (fun w hSw => by (try dsimp only at hSw); go_simp; try with_reducible rfl) ?_
          try simp only [List.getElem_toArray, List.getElem_cons_zero, List.getElem_cons_succ, Act.put, List.setIfInBounds_toArray, List.set_cons_zero, List.set_cons_succ]
          refine wpAnyS_take (i := 8) (v := ?_) (by kernel_rfl) rfl (fun _ _ _ h => h) rfl hS3 (fun w hSw => by (try dsimp only at hSw); go_simp; try with_reducible rfl) ?_
          try simp only [List.getElem_toArray, List.getElem_cons_zero, List.getElem_cons_succ, Act.put, List.setIfInBounds_toArray, List.set_cons_zero, List.set_cons_succ]
          refine wpAnyS_take (i := 9) (v := ?_) (by kernel_rfl) rfl (fun _ _ _ h => h) rfl hS3 (fun w hSw => by (try dsimp only at hSw); go_simp; try with_reducible rfl) ?_
          try simp only [List.getElem_toArray, List.getElem_cons_zero, List.getElem_cons_succ, Act.put, List.setIfInBounds_toArray, List.set_cons_zero, List.set_cons_succ]
          refine wpAnyS_take (i := 10) (v := ?_) (by kernel_rfl) rfl (fun _ _ _ h => h) rfl hS3 (fun w hSw => by (try dsimp only at hSw); go_simp; try with_reducible rfl) ?_
          try simp only [List.getElem_toArray, List.getElem_cons_zero, List.getElem_cons_succ, Act.put, List.setIfInBounds_toArray, List.set_cons_zero, List.set_cons_succ]
          refine wpAnyS_end 1 11 (by kernel_rfl) (by decide) rfl ?_
          simp only [List.toList_toArray, List.drop_succ_cons, List.drop_zero]
          have HWC := Lib.hid (hbw.out.trans (hrC.mono hbw.out.size))
          have HSC := Lib.hid (hss.out.keep hrC)
          clear hS0 hS1 hS2 hS3 hrA hrB hrC hbA hbB hbC hkyA hkyB p0 p1 p2 p3 s0 s1 s2 s3 hsc
          rcases GR with _ | _
          · have HAGx := Lib.hid (HAG.out rfl)
            obtain ⟨T, hT⟩ : ∃ T, AE m s = T := ⟨_, rfl⟩
            rw [hT]
            have HT := Lib.hid hT
            clear hT
            go_upto_region 14 with (fail)
            obtain ⟨p0, p1, p2, p3⟩ := HP1.out.below HWC.out
            obtain ⟨s0, s1, s2, s3⟩ := HP2.out.below HWC.out
            refine wp_region_S (fun w' => w'.cell? ⟨bP, 0, none⟩ = some (.int .i64 k1) ∧ w'.cell? ⟨bP, 1, none⟩ = some (.int .i64 n) ∧ w'.cell? ⟨bP, 2, none⟩ = some (.int .i64 r1) ∧ w'.cell? ⟨bP, 3, none⟩ = some (.slice Bk1 q1.len ck1) ∧ w'.cell? ⟨bQ, 0, none⟩ = some (.int .i64 k2) ∧ w'.cell? ⟨bQ, 1, none⟩ = some (.int .i64 n) ∧ w'.cell? ⟨bQ, 2, none⟩ = some (.int .i64 r2) ∧ w'.cell? ⟨bQ, 3, none⟩ = some (.slice Bk2 q2.len ck2)) 11 (by kernel_rfl) ?_
            have hS0 := (⟨p0, p1, p2, p3, s0, s1, s2, s3⟩ : (fun w' => w'.cell? ⟨bP, 0, none⟩ = some (.int .i64 k1) ∧ w'.cell? ⟨bP, 1, none⟩ = some (.int .i64 n) ∧ w'.cell? ⟨bP, 2, none⟩ = some (.int .i64 r1) ∧ w'.cell? ⟨bP, 3, none⟩ = some (.slice Bk1 q1.len ck1) ∧ w'.cell? ⟨bQ, 0, none⟩ = some (.int .i64 k2) ∧ w'.cell? ⟨bQ, 1, none⟩ = some (.int .i64 n) ∧ w'.cell? ⟨bQ, 2, none⟩ = some (.int .i64 r2) ∧ w'.cell? ⟨bQ, 3, none⟩ = some (.slice Bk2 q2.len ck2)) wC.drew)
            refine wpAnyS_take (i := 0) (v := ?_) (by kernel_rfl) rfl (fun _ _ _ h => h) rfl hS0 (fun w hSw => by (try dsimp only at hSw); go_simp; try with_reducible rfl) ?_
            try simp only [List.getElem_toArray, List.getElem_cons_zero, List.getElem_cons_succ, Act.put, List.setIfInBounds_toArray, List.set_cons_zero, List.set_cons_succ]
            refine wpAnyS_take (i := 1) (v := ?_) (by kernel_rfl) rfl (fun _ _ _ h => h) rfl hS0 (fun w hSw => by (try dsimp only at hSw); go_simp; try with_reducible rfl) ?_
            try simp only [List.getElem_toArray, List.getElem_cons_zero, List.getElem_cons_succ, Act.put, List.setIfInBounds_toArray, List.set_cons_zero, List.set_cons_succ]
            refine wpAnyS_take (i := 2) (v := ?_) (by kernel_rfl) rfl (fun _ _ _ h => h) rfl hS0 (fun w hSw => by (try dsimp only at hSw); go_simp; try with_reducible rfl) ?_
            try simp only [List.getElem_toArray, List.getElem_cons_zero, List.getElem_cons_succ, Act.put, List.setIfInBounds_toArray, List.set_cons_zero, List.set_cons_succ]
            refine wpAnyS_take (i := 3) (v := ?_) (by kernel_rfl) rfl (fun _ _ _ h => h) rfl hS0 (fun w hSw => by (try dsimp only at hSw); go_simp; try with_reducible rfl) ?_
            try simp only [List.getElem_toArray, List.getElem_cons_zero, List.getElem_cons_succ, Act.put, List.setIfInBounds_toArray, List.set_cons_zero, List.set_cons_succ]
            refine wpAnyS_take (i := 5) (v := ?_) (by kernel_rfl) rfl (fun _ _ _ h => h) rfl hS0 (fun w hSw => by (try dsimp only at hSw); go_simp; try with_reducible rfl) ?_
            try simp only [List.getElem_toArray, List.getElem_cons_zero, List.getElem_cons_succ, Act.put, List.setIfInBounds_toArray, List.set_cons_zero, List.set_cons_succ]
            refine wpAnyS_one (i := 4) (by kernel_rfl) rfl rfl (fun K hK => ?_)
            go_simp
            refine (HLI.out m (by omega) _ (HL.out.keep (HB6.out.trans ((HWC.out.drew).mono HB6.out.size)))).mono ?_
            rintro z wD ⟨gX, rfl, -, hxD, hbD⟩
            have hrD : Below wC.heap.size wC wD := (Below.refl _ wC).drew.trans hbD
            have hS1 : (fun w' => w'.cell? ⟨bP, 0, none⟩ = some (.int .i64 k1) ∧ w'.cell? ⟨bP, 1, none⟩ = some (.int .i64 n) ∧ w'.cell? ⟨bP, 2, none⟩ = some (.int .i64 r1) ∧ w'.cell? ⟨bP, 3, none⟩ = some (.slice Bk1 q1.len ck1) ∧ w'.cell? ⟨bQ, 0, none⟩ = some (.int .i64 k2) ∧ w'.cell? ⟨bQ, 1, none⟩ = some (.int .i64 n) ∧ w'.cell? ⟨bQ, 2, none⟩ = some (.int .i64 r2) ∧ w'.cell? ⟨bQ, 3, none⟩ = some (.slice Bk2 q2.len ck2)) wD := ⟨keep_cell hrD p0, keep_cell hrD p1, keep_cell hrD p2, keep_cell hrD p3, keep_cell hrD s0, keep_cell hrD s1, keep_cell hrD s2, keep_cell hrD s3⟩
            refine hK.out _ _ (fun _ => hS1) ?_
            clear hK K
            try simp only [List.getElem_toArray, List.getElem_cons_zero, List.getElem_cons_succ, Act.put, List.setIfInBounds_toArray, List.set_cons_zero, List.set_cons_succ]
            refine wpAnyS_one (i := 6) (by kernel_rfl) rfl rfl (fun K hK => ?_)
            go_simp
            refine (HAGx.out s m (by omega) wD gX (HK1.out.below (HWC.out.trans (hrD.mono HWC.out.size))) (HK2.out.below (HWC.out.trans (hrD.mono HWC.out.size))) hxD).mono ?_
            rintro z wE ⟨rfl, hbE⟩
            have hrE : Below wC.heap.size wC wE := hrD.trans (hbE.mono hrD.size)
            have hS2 : (fun w' => w'.cell? ⟨bP, 0, none⟩ = some (.int .i64 k1) ∧ w'.cell? ⟨bP, 1, none⟩ = some (.int .i64 n) ∧ w'.cell? ⟨bP, 2, none⟩ = some (.int .i64 r1) ∧ w'.cell? ⟨bP, 3, none⟩ = some (.slice Bk1 q1.len ck1) ∧ w'.cell? ⟨bQ, 0, none⟩ = some (.int .i64 k2) ∧ w'.cell? ⟨bQ, 1, none⟩ = some (.int .i64 n) ∧ w'.cell? ⟨bQ, 2, none⟩ = some (.int .i64 r2) ∧ w'.cell? ⟨bQ, 3, none⟩ = some (.slice Bk2 q2.len ck2)) wE := ⟨keep_cell hrE p0, keep_cell hrE p1, keep_cell hrE p2, keep_cell hrE p3, keep_cell hrE s0, keep_cell hrE s1, keep_cell hrE s2, keep_cell hrE s3⟩
            refine hK.out _ _ (fun _ => hS2) ?_
            clear hK K
            try simp only [List.getElem_toArray, List.getElem_cons_zero, List.getElem_cons_succ, Act.put, List.setIfInBounds_toArray, List.set_cons_zero, List.set_cons_succ]
            refine wpAnyS_take (i := 7) (v := ?_) (by kernel_rfl) rfl (fun _ _ _ h => h) rfl hS2 (fun w hSw => by (try dsimp only at hSw); go_simp; try with_reducible rfl) ?_
            try simp only [List.getElem_toArray, List.getElem_cons_zero, List.getElem_cons_succ, Act.put, List.setIfInBounds_toArray, List.set_cons_zero, List.set_cons_succ]
            refine wpAnyS_take (i := 8) (v := ?_) (by kernel_rfl) rfl (fun _ _ _ h => h) rfl hS2 (fun w hSw => by (try dsimp only at hSw); go_simp; try with_reducible rfl) ?_
            try simp only [List.getElem_toArray, List.getElem_cons_zero, List.getElem_cons_succ, Act.put, List.setIfInBounds_toArray, List.set_cons_zero, List.set_cons_succ]
            refine wpAnyS_take (i := 9) (v := ?_) (by kernel_rfl) rfl (fun _ _ _ h => h) rfl hS2 (fun w hSw => by (try dsimp only at hSw); go_simp; try with_reducible rfl) ?_
            try simp only [List.getElem_toArray, List.getElem_cons_zero, List.getElem_cons_succ, Act.put, List.setIfInBounds_toArray, List.set_cons_zero, List.set_cons_succ]
            refine wpAnyS_take (i := 10) (v := ?_) (by kernel_rfl) rfl (fun _ _ _ h => h) rfl hS2 (fun w hSw => by (try dsimp only at hSw); go_simp; try with_reducible rfl) ?_
            try simp only [List.getElem_toArray, List.getElem_cons_zero, List.getElem_cons_succ, Act.put, List.setIfInBounds_toArray, List.set_cons_zero, List.set_cons_succ]
            refine wpAnyS_end 1 11 (by kernel_rfl) (by decide) rfl ?_
            simp only [List.toList_toArray, List.drop_succ_cons, List.drop_zero]
            have HWE := Lib.hid (HWC.out.trans (hrE.mono HWC.out.size))
            have HSE := Lib.hid (HSC.out.keep hrE)
            rw [HT.out]
            clear hS0 hS1 hS2 hrD hrE hbD hbE hxD p0 p1 p2 p3 s0 s1 s2 s3
            obtain ⟨D, hD⟩ : ∃ D, decide (T = 0) = D := ⟨_, rfl⟩
            have hDb : (T == 0) = D := by rw [← hD]; by_cases h : T = 0 <;> simp [h]
            rw [hD]
            clear hD
            rcases D with _ | _
            · go_wp2
              exact ⟨⟨j + 1, by omega, by go_num, HWE, HSE⟩, by simp [intOf]; omega⟩
            · go_wp2
              exact ⟨⟨j + 1, by omega, by go_num, HWE, HSE⟩, by simp [intOf]; omega⟩
          · go_wp2
            exact ⟨⟨j + 1, by omega, by go_num, HWC, HSC⟩, by simp [intOf]; omega⟩
        · obtain rfl : j = 3 := by omega
          have HWZ := hbw
          go_wp2
          exact ⟨⟨i + 1, by omega, by go_num, HWZ⟩, by simp [intOf]; omega⟩
    · obtain rfl : i = 2 := by omega
      go_wp2
      go_ret
      exact ⟨rfl, HB6.out.trans (hbo.out.mono HB6.out.size)⟩
end Go.Proofs.Yteaimnemobnknaa
