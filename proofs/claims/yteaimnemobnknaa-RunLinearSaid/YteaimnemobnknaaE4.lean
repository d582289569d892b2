/- The walks of RunRuns. -/
import Derived.Test.YteaimnemobnknaaME1
import Derived.Test.YteaimnemobnknaaMD2
set_option linter.unusedSimpArgs false
set_option linter.unusedVariables false
namespace Go.Proofs.Yteaimnemobnknaa
open Go.RowKit Go.Lib

theorem elF_in (q m : Nat) (f : Nat → Int) (q1 : 1 ≤ q) : InQ q (elF q m f) := fun i => by
  unfold elF
  by_cases h : i < m
  · rw [if_pos h]
    have h1 := Int.emod_nonneg (f i) (show (q : Int) ≠ 0 by omega)
    have h2 := Int.emod_lt_of_pos (f i) (show (0 : Int) < q by omega)
    exact ⟨h1, h2⟩
  · rw [if_neg h]
    omega
theorem sameB2_true {n : Nat} {f g : Nat → Int} (h : ∀ i, i < n → f i = g i) : sameB2 n n f g = true := decide_eq_true ⟨rfl, h⟩
theorem InQ.rng' {Q V O : Nat} (P : FieldOk Q V O) {x : Nat → Int} (h : InQ Q x) : Rng x := fun i => by
  have := h i
  have := P.q
  omega
/-- What a law asks of a number between 1 and 120. -/
theorem plan_field {kind : Int} {m : Nat} {r : Int} {q : Fo} (hm : m ≤ 512) (he : checkE kind m r q m = 0) (hf : (fieldF kind m r q).2 = true) :
    PlanF (fieldF kind m r q).1.1 (fieldF kind m r q).1.2.1 (fieldF kind m r q).1.2.2 kind m r q := by
  obtain ⟨o, ho, o1, o2, e, hne⟩ := fieldF_ok hf
  obtain ⟨h1, h2⟩ := smallF_ok o1 o2 hne
  rw [e]
  refine ⟨h1, he, hm, ?_⟩
  rw [h2]
  exact ordR_dvd ho

set_option maxRecDepth 100000 in
set_option maxHeartbeats 8000000 in
theorem Runs_any (a0 : Int) (b0 : -9223372036854775808 ≤ a0) (b1 : a0 ≤ 9223372036854775807) (Ac : Option Addr) (nc cc : Nat) (f : Nat → Int) (Al : Option Addr) (nl cl : Nat) (l : Nat → Int) (w : World) (hI : IntsAt w Ac nc f) (hnc : nc ≤ 1125899906842624) (hL : IntsAt w Al nl l) (hR : Rng l) (hnl : nl ≤ 1125899906842624) :
    Calls Try.prog 4 #[.int .i64 a0, .slice Ac nc cc, .slice Al nl cl] w (Ret w (.bool true)) := by
  have HI := Lib.hid hI
  have HL := Lib.hid hL
  have HR := Lib.hid hR
  clear hI hL hR
  go_enter Try.func4, Try.ntmps4
  go_upto_region 1 with (fail)
  go_cut [0] from 16 to 19 (fun s0 wx => ∃ m : Nat, 1 ≤ m ∧ m ≤ 120 ∧ s0 = .int .i64 m ∧ w = wx)
  case first =>
    have h0 := Int.emod_nonneg a0 (show (120 : Int) ≠ 0 by omega)
    have h1 := Int.emod_lt_of_pos a0 (show (0 : Int) < 120 by omega)
    by_cases hneg : a0 ≤ 0
    · go_wp2_with fail
      go_meet
      exact ⟨1, by omega, by omega, rfl, rfl⟩
    · have ht : a0.tmod 120 = a0 % 120 := Int.tmod_eq_emod_of_nonneg (by omega)
      obtain ⟨x, hx⟩ : ∃ x, a0 % 120 = x := ⟨_, rfl⟩
      rw [hx] at h0 h1 ht
      clear hx
      go_wp2_with fail
      go_meet
      exact ⟨(1 + x).toNat, by omega, by omega, by rw [Int.toNat_of_nonneg (by omega)], rfl⟩
  case rest =>
  obtain ⟨m, hm1, hm2, rfl, rfl⟩ := hcut
  apply_assumption
  have HPO := Lib.hid (planOf18 m hm1 (by omega) Ac nc cc f w HI.out hnc)
  go_wp2_with fail
  refine HPO.out.mono ?_
  rintro z w1 ⟨kind, r, q, Bk, ck, rfl, hq, hkd, hb1⟩
  have HQ := Lib.hid (show q.count ≤ 549755813888 by omega)
  have HB1 := Lib.hid hb1
  have HK1 := Lib.hid hkd
  clear HPO hb1 hkd hq
  go_upto_region 3 with (fail)
  obtain ⟨w2, hw2⟩ : ∃ w2, w2 = w1.alloc (.cells #[.int .i64 kind, .int .i64 m, .int .i64 r, .slice Bk q.len ck] 26) := ⟨_, rfl⟩
  have hb2 : Below w1.heap.size w1 w2 := by rw [hw2]; exact (Below.refl _ w1).alloc (Nat.le_refl _) _
  have hp2 := PlBox.new w1 kind m r Bk q.len ck 26
  rw [← hw2] at hp2 ⊢
  obtain ⟨bP, hbP⟩ : ∃ bP, w1.heap.size = bP := ⟨_, rfl⟩
  rw [hbP] at hp2 ⊢
  have HP2 := Lib.hid hp2
  have HK2 := Lib.hid (HK1.out.below hb2)
  have HB2 : Hid (Below w.heap.size w w2) := Lib.hid (HB1.out.trans (hb2.mono HB1.out.size))
  have HWK := Lib.hid (fun w => wakes18 w)
  clear hw2 hb2 hp2 hbP HB1 HK1
  by_cases he : checkE kind m r q m = 0
  · have hdt : decide (checkE kind m r q m = 0) = true := decide_eq_true he
    rw [hdt]
    have HE := Lib.hid he
    clear hdt he
    go_wp2_with fail
    refine (HWK.out _).mono ?_
    rintro z w3 ⟨rfl, hb3⟩
    have HP3 := Lib.hid (HP2.out.below hb3)
    have HK3 := Lib.hid (HK2.out.below hb3)
    have HB3 : Hid (Below w.heap.size w w3) := Lib.hid (HB2.out.trans (hb3.mono HB2.out.size))
    have HPR := Lib.hid ((planRef_all18 (.cons kind m r q .nil)).1 HQ.out w3 Bk ck HK3.out)
    obtain ⟨p0, p1, p2, p3⟩ := HP3.out
    clear hb3 HP2 HK2 HB2 HWK
    go_wp2_with fail
    refine HPR.out.mono ?_
    rintro z w4 ⟨B4, c4, rfl, hky, hb4⟩
    have HF := Lib.hid (fieldOf_any kind m r q HQ.out w4 B4 c4 hky.kids)
    have HP4 := Lib.hid (HP3.out.below hb4)
    have HK4 := Lib.hid (HK3.out.below hb4)
    have HB4 : Hid (Below w.heap.size w w4) := Lib.hid (HB3.out.trans (hb4.mono HB3.out.size))
    have HPF := Lib.hid (fun hf => plan_field (by omega) HE.out hf)
    obtain ⟨R, hR⟩ : ∃ R, fieldF kind m r q = R := ⟨_, rfl⟩
    rw [hR] at HF HPF
    obtain ⟨⟨Q, V, O⟩, ok⟩ := R
    dsimp only at HF HPF
    clear hky hb4 hR HP3 HK3 HB3 HPR p0 p1 p2 p3
    go_wp2_with fail
    refine HF.out.mono ?_
    rintro z w5 ⟨rfl, hb5⟩
    have HP5 := Lib.hid (HP4.out.below hb5)
    have HK5 := Lib.hid (HK4.out.below hb5)
    have HB5 : Hid (Below w.heap.size w w5) := Lib.hid (HB4.out.trans (hb5.mono HB4.out.size))
    clear hb5 HP4 HK4 HB4 HF
    rcases ok with _ | _
    · go_wp2
      go_ret
      exact ⟨rfl, HB5.out.alloc HB5.out.size _⟩
    · have hpf := HPF.out rfl
      have HPL := Lib.hid hpf
      have hfq := hpf.fo.q
      have hfv := hpf.fo.v
      have hfn := hpf.fo.nq
      have hq2 := hpf.fo.pr.1
      clear HPF hpf
      go_upto_region 9 with (fail)
      obtain ⟨w6, hw6⟩ : ∃ w6, w6 = (w5.alloc (.cells #[.int .i64 Q, .int .i64 V, .int .i64 O] 33)).alloc (.cells #[.int .i64 Q, .int .i64 V, .int .i64 O] 35) := ⟨_, rfl⟩
      have hb6 : Below w5.heap.size w5 w6 := by rw [hw6]; exact ((Below.refl _ w5).alloc (Nat.le_refl _) _).alloc (by simp) _
      have hf6 : Tri w6 w5.heap.size Q V O := by
        rw [hw6]
        exact (Tri.new w5 Q V O _).below ((Below.refl _ _).alloc (Nat.le_refl _) _)
      have hr6 : Tri w6 (w5.heap.size + 1) Q V O := by
        rw [hw6]
        have := Tri.new (w5.alloc (.cells #[.int .i64 Q, .int .i64 V, .int .i64 O] 33)) Q V O 35
        simp only [World.size_alloc] at this
        exact this
      rw [← hw6]
      obtain ⟨bF, hbF⟩ : ∃ bF, w5.heap.size = bF := ⟨_, rfl⟩
      rw [hbF] at hf6 hr6 ⊢
      obtain ⟨bR, hbR⟩ : ∃ bR, bF + 1 = bR := ⟨_, rfl⟩
      rw [hbR] at hr6 ⊢
      have HP6 := Lib.hid (HP5.out.below hb6)
      have HK6 := Lib.hid (HK5.out.below hb6)
      have HB6 : Hid (Below w.heap.size w w6) := Lib.hid (HB5.out.trans (hb6.mono HB5.out.size))
      have HEL := Lib.hid (elements18 Q V O (by omega) (by omega) Al nl cl m l w6 (HL.out.keep HB6.out) HR.out hnl (by omega))
      obtain ⟨t0, t1, t2⟩ := hr6
      have HF6 := Lib.hid hf6
      have HR6 : Hid (Tri w6 bR Q V O) := Lib.hid ⟨t0, t1, t2⟩
      clear hw6 hb6 hf6 HP5 HK5 HB5 hbF hbR
      go_wp2_with fail
      refine HEL.out.mono ?_
      rintro z w7 ⟨rfl, hrow, hb7⟩
      have HX7 := Lib.hid hrow.ints
      obtain ⟨bX, hbX⟩ : ∃ bX, w6.heap.size + 1 = bX := ⟨_, rfl⟩
      rw [hbX] at HX7 ⊢
      have HP7 := Lib.hid (HP6.out.below hb7)
      have HK7 := Lib.hid (HK6.out.below hb7)
      have HF7 := Lib.hid (HF6.out.below hb7)
      have HR7 := Lib.hid (HR6.out.below hb7)
      have HB7 : Hid (Below w.heap.size w w7) := Lib.hid (HB6.out.trans (hb7.mono HB6.out.size))
      have HIN := Lib.hid (elF_in Q nl l (by omega))
      have bsi := bs_int2
      clear hrow hb7 hbX HP6 HK6 HF6 HR6 HB6 HEL t0 t1 t2
      go_wp2_with fail
      obtain ⟨w8, hw8⟩ : ∃ w8, w8 = w7.alloc (.cells #[.int .i64 1, .int .i64 (-1)] 3) := ⟨_, rfl⟩
      have hb8 : Below w7.heap.size w7 w8 := by rw [hw8]; exact (Below.refl _ w7).alloc (Nat.le_refl _) _
      have hs8 := ints_two w7 1 (-1) 3 w7.heap.size rfl
      rw [← hw8] at hs8
      obtain ⟨bS, hbS⟩ : ∃ bS, w7.heap.size = bS := ⟨_, rfl⟩
      rw [hbS] at hs8
      have HS8 := Lib.hid hs8
      have HX8 := Lib.hid (HX7.out.keep hb8)
      have HP8 := Lib.hid (HP7.out.below hb8)
      have HK8 := Lib.hid (HK7.out.below hb8)
      have HF8 := Lib.hid (HF7.out.below hb8)
      have HR8 := Lib.hid (HR7.out.below hb8)
      have HB8 : Hid (Below w.heap.size w w8) := Lib.hid (HB7.out.trans (hb8.mono HB7.out.size))
      clear hb8 hs8 HX7 HP7 HK7 HF7 HR7 HB7
      rw [← hw8]
      rw [hbS]
      clear hw8 hbS
      go_loopw [13, 14, 15, 49] (fun v13 v14 v15 v49 wr => ∃ i : Nat, i ≤ 2 ∧ v49 = .int .i64 i ∧ Hid (Below w8.heap.size w8 wr)) (fun _ _ _ v49 _ => 2 - (intOf v49).toNat)
      case atStart => exact ⟨0, by omega, rfl, Lib.hid (Below.refl _ _)⟩
      case round =>
        obtain ⟨i, hi, rfl, hbw⟩ := hrel
        by_cases hlt : i < 2
        · obtain ⟨s, hs, hss⟩ : ∃ s : Int, [1, -1].getD i 0 = s ∧ (s = 1 ∨ s = -1) := by
            rcases (show i = 0 ∨ i = 1 by omega) with rfl | rfl
            · exact ⟨1, rfl, .inl rfl⟩
            · exact ⟨-1, rfl, .inr rfl⟩
          have hli : (i : Int) < 2 := by omega
          obtain ⟨b1', o1', e1', hsc0⟩ := HS8.out.keep hbw.out i hlt
          injection e1' with e1'
          injection e1' with e2' e3'
          subst e2' e3'
          have hsc : wr.cell? ⟨bS, 0 + i, none⟩ = some (.int .i64 s) := by rw [← hs]; exact hsc0
          rw [Nat.zero_add] at hsc
          have HSS := Lib.hid hss
          have HPA := Lib.hid (HP8.out.below hbw.out)
          have HKA := Lib.hid (HK8.out.below hbw.out)
          have HFA := Lib.hid (HF8.out.below hbw.out)
          have HRA := Lib.hid (HR8.out.below hbw.out)
          have HXA := Lib.hid (HX8.out.keep hbw.out)
          clear hs hss hsc0
          have HWA := hbw
          have HRUN := Lib.hid (Run_f HPL.out s HSS.out HQ.out wr Bk ck (some ⟨bX, 0, none⟩) m (elF Q nl l) HKA.out HXA.out HIN.out)
          obtain ⟨p0, p1, p2, p3⟩ := HPA.out
          obtain ⟨t0, t1, t2⟩ := HRA.out
          go_wp2_with fail
          refine HRUN.out.mono ?_
          rintro z wB ⟨g, rfl, hy, hbB⟩
          have HYB := Lib.hid hy
          have HPB := Lib.hid (HPA.out.below hbB)
          have HKB := Lib.hid (HKA.out.below hbB)
          have HFB := Lib.hid (HFA.out.below hbB)
          have HRB := Lib.hid (HRA.out.below hbB)
          have HXB := Lib.hid (HXA.out.keep hbB)
          have HWB : Hid (Below w8.heap.size w8 wB) := Lib.hid (HWA.out.trans (hbB.mono HWA.out.size))
          have HDR := Lib.hid (RRun_any Q V O hq2 (by omega) (by omega) (by omega) (some ⟨bX, 0, none⟩) m m s (elF Q nl l) wB HXB.out (HIN.out.rng HPL.out) (by omega))
          clear hy hbB p0 p1 p2 p3 t0 t1 t2 HRUN hsc HPA HKA HFA HRA HXA hbw
          obtain ⟨f0, f1, f2⟩ := HFB.out
          go_wp2_with fail
          refine HDR.out.mono ?_
          rintro z wC ⟨A', c', rfl, hd, -, hbC⟩
          have HSM := Lib.hid (same18 (some ⟨g, 0, none⟩) A' m m m c' _ _ wC (HYB.out.keep hbC) hd (by omega) (by omega))
          rw [sameB2_true (fun i _ => rfl)] at HSM
          have HPC := Lib.hid (HPB.out.below hbC)
          have HKC := Lib.hid (HKB.out.below hbC)
          have HFC := Lib.hid (HFB.out.below hbC)
          have HRC := Lib.hid (HRB.out.below hbC)
          have HXC := Lib.hid (HXB.out.keep hbC)
          have HWC : Hid (Below w8.heap.size w8 wC) := Lib.hid (HWB.out.trans (hbC.mono HWB.out.size))
          clear hd hbC HDR HYB HPB HKB HFB HRB HXB f0 f1 f2
          go_wp2_with fail
          refine HSM.out.mono ?_
          rintro z wD ⟨rfl, hqt⟩
          have hbD := hqt.below
          have HPD := Lib.hid (HPC.out.below hbD)
          have HKD := Lib.hid (HKC.out.below hbD)
          have HFD := Lib.hid (HFC.out.below hbD)
          have HRD := Lib.hid (HRC.out.below hbD)
          have HXD := Lib.hid (HXC.out.keep hbD)
          have HWD : Hid (Below w8.heap.size w8 wD) := Lib.hid (HWC.out.trans (hbD.mono HWC.out.size))
          have HEL2 := Lib.hid (elements18 Q V O (by omega) (by omega) Al nl cl m l wD (HL.out.keep (HB8.out.trans (HWD.out.mono HB8.out.size))) HR.out hnl (by omega))
          clear hqt hbD HSM HPC HKC HFC HRC HXC
          obtain ⟨t0, t1, t2⟩ := HRD.out
          go_wp2_with fail
          refine HEL2.out.mono ?_
          rintro z wE ⟨rfl, hrow, hbE⟩
          have HSM2 := Lib.hid (same18 (some ⟨bX, 0, none⟩) (some ⟨wD.heap.size + 1, 0, none⟩) m m m m _ _ wE (HXD.out.keep hbE) hrow.ints (by omega) (by omega))
          rw [sameB2_true (fun i _ => rfl)] at HSM2
          have HWE : Hid (Below w8.heap.size w8 wE) := Lib.hid (HWD.out.trans (hbE.mono HWD.out.size))
          clear hrow hbE HEL2 HPD HKD HFD HRD HXD t0 t1 t2
          go_wp2_with fail
          refine HSM2.out.mono ?_
          rintro z wG ⟨rfl, hqt⟩
          have HWG : Hid (Below w8.heap.size w8 wG) := Lib.hid (HWE.out.trans (hqt.below.mono HWE.out.size))
          clear hqt HSM2
          go_wp2
          exact ⟨⟨i + 1, by omega, by go_num, HWG⟩, by simp [intOf]; omega⟩
        · obtain rfl : i = 2 := by omega
          go_wp2
          go_ret
          exact ⟨rfl, HB8.out.trans (hbw.out.mono HB8.out.size)⟩
  · have hdt : decide (checkE kind m r q m = 0) = false := decide_eq_false he
    rw [hdt]
    clear hdt he
    go_wp2_with fail
    refine (HWK.out _).mono ?_
    rintro z w3 ⟨rfl, hb3⟩
    have HB3 : Hid (Below w.heap.size w w3) := Lib.hid (HB2.out.trans (hb3.mono HB2.out.size))
    clear hb3
    go_wp2_with fail
    refine (HWK.out _).mono ?_
    rintro z w4 ⟨rfl, hb4⟩
    have HB4 : Hid (Below w.heap.size w w4) := Lib.hid (HB3.out.trans (hb4.mono HB3.out.size))
    clear hb4
    go_wp2
    go_ret
    exact ⟨rfl, HB4.out⟩
end Go.Proofs.Yteaimnemobnknaa
