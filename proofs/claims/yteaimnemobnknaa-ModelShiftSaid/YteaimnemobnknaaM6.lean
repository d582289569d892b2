/- The walk of ModelExact. -/
import Derived.Test.YteaimnemobnknaaMM1
import Derived.Test.YteaimnemobnknaaML2
set_option linter.unusedSimpArgs false
set_option linter.unusedVariables false
namespace Go.Proofs.Yteaimnemobnknaa
open Go.RowKit Go.Lib

theorem sameB2_same {n : Nat} {f g : Nat → Int} (h : ∀ i, i < n → f i = g i) : sameB2 n n f g = true := decide_eq_true ⟨rfl, h⟩
/-- What a law asks of a number between 1 and 100. -/
theorem small_field {kind : Int} {m : Nat} {r : Int} {q : Fo} (hm : m ≤ 100) (h : (ordR kind m r q).2 = 0 ∧ (ordR kind m r q).1 ≤ 4294967296) : ∃ o Q, ordR kind m r q = (o, 0) ∧ FieldQ o Q := by
  obtain ⟨h1, h2⟩ := h
  have e : ordR kind m r q = ((ordR kind m r q).1, 0) := by rw [← h1]
  obtain ⟨Q, F⟩ := one_field hm (ord_in hm e) h2
  exact ⟨_, Q, e, F⟩

set_option maxRecDepth 100000 in
set_option maxHeartbeats 16000000 in
theorem MExact_any (a0 : Int) (b0 : -9223372036854775808 ≤ a0) (b1 : a0 ≤ 9223372036854775807) (Ac : Option Addr) (nc cc : Nat) (f : Nat → Int) (Al : Option Addr) (nl cl : Nat) (l : Nat → Int) (w : World) (hI : IntsAt w Ac nc f) (hnc : nc ≤ 1125899906842624) (hL : IntsAt w Al nl l) (hR : Rng l) (hnl : nl ≤ 1125899906842624) :
    Calls Try.prog 8 #[.int .i64 a0, .slice Ac nc cc, .slice Al nl cl] w (Ret w (.bool true)) := by
  have HI := Lib.hid hI
  have HL := Lib.hid hL
  have HR := Lib.hid hR
  clear hI hL hR
  go_enter Try.func8, Try.ntmps8
  go_upto_region 1 with (fail)
  go_cut [0] from 17 to 20 (fun s0 wx => ∃ m : Nat, 1 ≤ m ∧ m ≤ 100 ∧ s0 = .int .i64 m ∧ w = wx)
  case first =>
    have h0 := Int.emod_nonneg a0 (show (100 : Int) ≠ 0 by omega)
    have h1 := Int.emod_lt_of_pos a0 (show (0 : Int) < 100 by omega)
    by_cases hneg : a0 ≤ 0
    · go_wp2_with fail
      go_meet
      exact ⟨1, by omega, by omega, rfl, rfl⟩
    · have ht : a0.tmod 100 = a0 % 100 := Int.tmod_eq_emod_of_nonneg (by omega)
      obtain ⟨x, hx⟩ : ∃ x, a0 % 100 = x := ⟨_, rfl⟩
      rw [hx] at h0 h1 ht
      clear hx
      go_wp2_with fail
      go_meet
      exact ⟨(1 + x).toNat, by omega, by omega, by rw [Int.toNat_of_nonneg (by omega)], rfl⟩
  case rest =>
  obtain ⟨m, hm1, hm2, rfl, rfl⟩ := hcut
  apply_assumption
  have HPO := Lib.hid (planOf19 m hm1 (by omega) Ac nc cc f w HI.out hnc)
  go_wp2_with fail
  refine HPO.out.mono ?_
  rintro z w1 ⟨kind, r, q, Bk, ck, rfl, hq, hkd, hb1⟩
  have HQ := Lib.hid (show q.count ≤ 549755813888 by omega)
  have HB1 := Lib.hid hb1
  have HK1 := Lib.hid hkd
  clear HPO hb1 hkd hq
  go_upto_region 3 with (fail)
  obtain ⟨w2, hw2⟩ : ∃ w2, w2 = w1.alloc (.cells #[.int .i64 kind, .int .i64 m, .int .i64 r, .slice Bk q.len ck] 26) := ⟨_, rfl⟩
  have hb2 : Below w1.heap.size w1 w2 := by rw [hw2]; exact (Below.refl _ w1).alloc (Nat.le_refl _) _
  have hp2 := PlBox.new w1 kind m r Bk q.len ck 26
  rw [← hw2] at hp2 ⊢
  obtain ⟨bP, hbP⟩ : ∃ bP, w1.heap.size = bP := ⟨_, rfl⟩
  rw [hbP] at hp2 ⊢
  have HP2 := Lib.hid hp2
  have HK2 := Lib.hid (HK1.out.below hb2)
  have HB2 : Hid (Below w.heap.size w w2) := Lib.hid (HB1.out.trans (hb2.mono HB1.out.size))
  have HWK := Lib.hid (fun w => wakes19 w)
  clear hw2 hb2 hp2 hbP HB1 HK1
  by_cases he : checkE kind m r q m = 0
  · have hdt : decide (checkE kind m r q m = 0) = true := decide_eq_true he
    rw [hdt]
    have HE := Lib.hid he
    clear hdt he
    go_wp2_with fail
    refine (HWK.out _).mono ?_
    rintro z w3 ⟨rfl, hb3⟩
    have HP3 := Lib.hid (HP2.out.below hb3)
    have HK3 := Lib.hid (HK2.out.below hb3)
    have HB3 : Hid (Below w.heap.size w w3) := Lib.hid (HB2.out.trans (hb3.mono HB2.out.size))
    have HSM := Lib.hid (small19 kind m r q HQ.out w3 Bk ck HK3.out)
    obtain ⟨p0, p1, p2, p3⟩ := HP3.out
    clear hb3 HP2 HK2 HB2
    by_cases hsm : (ordR kind m r q).2 = 0 ∧ (ordR kind m r q).1 ≤ 4294967296
    · rw [decide_eq_true hsm] at HSM
      obtain ⟨o, Q, ho, F⟩ := small_field hm2 hsm
      have HO := Lib.hid ho
      have HF := Lib.hid F
      clear hsm ho F
      go_wp2_with fail
      refine HSM.out.mono ?_
      rintro z w4 ⟨rfl, hb4⟩
      have HB4 : Hid (Below w.heap.size w w4) := Lib.hid (HB3.out.trans (hb4.mono HB3.out.size))
      have HP4 := Lib.hid (HP3.out.below hb4)
      have HK4 := Lib.hid (HK3.out.below hb4)
      have HLI := Lib.hid (fun w h => list19 Al nl cl m l w h hnl (by omega))
      clear hb4 HP3 HK3 HB3 HSM p0 p1 p2 p3 HWK
      go_wp2_with fail
      refine (HLI.out _ (HL.out.keep HB4.out)).mono ?_
      rintro z w5 ⟨bX, rfl, -, hx5, hb5⟩
      have HB5 : Hid (Below w.heap.size w w5) := Lib.hid (HB4.out.trans (hb5.mono HB4.out.size))
      have HP5 := Lib.hid (HP4.out.below hb5)
      have HK5 := Lib.hid (HK4.out.below hb5)
      have HX5 := Lib.hid hx5
      have bsi := bs_int2
      clear hb5 hx5 HP4 HK4 HB4
      go_wp2_with fail
      obtain ⟨w8, hw8⟩ : ∃ w8, w8 = w5.alloc (.cells #[.int .i64 1, .int .i64 (-1)] 3) := ⟨_, rfl⟩
      have hb8 : Below w5.heap.size w5 w8 := by rw [hw8]; exact (Below.refl _ w5).alloc (Nat.le_refl _) _
      have hs8 := ints_two w5 1 (-1) 3 w5.heap.size rfl
      rw [← hw8] at hs8
      obtain ⟨bS, hbS⟩ : ∃ bS, w5.heap.size = bS := ⟨_, rfl⟩
      rw [hbS] at hs8
      have HS8 := Lib.hid hs8
      have HX8 := Lib.hid (HX5.out.keep hb8)
      have HP8 := Lib.hid (HP5.out.below hb8)
      have HK8 := Lib.hid (HK5.out.below hb8)
      have HB8 : Hid (Below w.heap.size w w8) := Lib.hid (HB5.out.trans (hb8.mono HB5.out.size))
      clear hb8 hs8 HX5 HP5 HK5 HB5
      rw [← hw8]
      rw [hbS]
      clear hw8 hbS
      have hRX : Rng (listF nl l) := listF_rng HR.out
      have HEX := Lib.hid (fun (s : Int) (hs : s = 1 ∨ s = -1) (w : World) (h1 : Kids w Bk 0 q) (h2 : IntsAt w (some ⟨bX, 0, none⟩) m (listF nl l)) => Exact_any kind m r q s hs HQ.out o Q HF.out HO.out (by omega) w Bk ck h1 (some ⟨bX, 0, none⟩) m (listF nl l) h2 hRX)
      have HRX := Lib.hid (fun (s : Int) (w : World) (B : Option Addr) (c : Nat) (h1 : Kids w B 0 q) (h2 : IntsAt w (some ⟨bX, 0, none⟩) m (listF nl l)) => RExact_any kind m r q s HQ.out o Q HF.out HO.out w B c h1 (some ⟨bX, 0, none⟩) m m (listF nl l) h2 hRX (by omega))
      have HPR := Lib.hid (fun w h => (planRef_all19 (.cons kind m r q .nil)).1 HQ.out w Bk ck h)
      clear hRX
      go_loopw [11, 12, 13, 14, 15, 16, 44] (fun v11 v12 v13 v14 v15 v16 v44 wr => ∃ i : Nat, i ≤ 2 ∧ v44 = .int .i64 i ∧ Hid (Below w8.heap.size w8 wr)) (fun _ _ _ _ _ _ v44 _ => 2 - (intOf v44).toNat)
      case atStart => exact ⟨0, by omega, rfl, Lib.hid (Below.refl _ _)⟩
      case round =>
        obtain ⟨i, hi, rfl, hbw⟩ := hrel
        by_cases hlt : i < 2
        · obtain ⟨s, hs, hss⟩ : ∃ s : Int, [1, -1].getD i 0 = s ∧ (s = 1 ∨ s = -1) := by
            rcases (show i = 0 ∨ i = 1 by omega) with rfl | rfl
            · exact ⟨1, rfl, .inl rfl⟩
            · exact ⟨-1, rfl, .inr rfl⟩
          have hli : (i : Int) < 2 := by omega
          obtain ⟨b1', o1', e1', hsc0⟩ := HS8.out.keep hbw.out i hlt
          injection e1' with e1'
          injection e1' with e2' e3'
          subst e2' e3'
          have hsc : wr.cell? ⟨bS, 0 + i, none⟩ = some (.int .i64 s) := by rw [← hs]; exact hsc0
          rw [Nat.zero_add] at hsc
          have HSS := Lib.hid hss
          obtain ⟨p0, p1, p2, p3⟩ := HP8.out.below hbw.out
          have HRUN := Lib.hid (HEX.out s HSS.out wr (HK8.out.below hbw.out) (HX8.out.keep hbw.out))
          clear hs hss hsc0
          go_wp2_with fail
          refine HRUN.out.mono ?_
          rintro z wA ⟨v, g, hv, rfl, hy, hbA⟩
          have HV := Lib.hid hv
          have HYA := Lib.hid hy
          have HWA : Hid (Below w8.heap.size w8 wA) := Lib.hid (hbw.out.trans (hbA.mono hbw.out.size))
          clear hv hy hbA p0 p1 p2 p3 HRUN hsc
          go_upto_region 10 with (fail)
          obtain ⟨wB, hwB⟩ : ∃ wB, wB = wA.alloc (.cells #[.int .i64 Q, .int .i64 v, .int .i64 o] 60) := ⟨_, rfl⟩
          have hbB : Below wA.heap.size wA wB := by rw [hwB]; exact (Below.refl _ wA).alloc (Nat.le_refl _) _
          have hTB := Tri.new wA (Q : Int) v o 60
          rw [← hwB] at hTB ⊢
          obtain ⟨bF, hbF⟩ : ∃ bF, wA.heap.size = bF := ⟨_, rfl⟩
          rw [hbF] at hTB ⊢
          have HTB := Lib.hid hTB
          have HYB := Lib.hid (HYA.out.keep hbB)
          have HWB : Hid (Below w8.heap.size w8 wB) := Lib.hid (HWA.out.trans (hbB.mono HWA.out.size))
          obtain ⟨p0, p1, p2, p3⟩ := HP8.out.below HWB.out
          clear hwB hbB hTB hbF HYA HWA
          go_wp2_with fail
          refine (HPR.out wB (HK8.out.below HWB.out)).mono ?_
          rintro z wC ⟨B4, c4, rfl, hky, hbC⟩
          have HWC : Hid (Below w8.heap.size w8 wC) := Lib.hid (HWB.out.trans (hbC.mono HWB.out.size))
          have HTC := Lib.hid (HTB.out.below hbC)
          have HYC := Lib.hid (HYB.out.keep hbC)
          have HRX2 := Lib.hid (HRX.out s wC B4 c4 hky.kids (HX8.out.keep HWC.out))
          clear hky hbC p0 p1 p2 p3 HTB HYB HWB
          go_wp2_with fail
          refine HRX2.out.mono ?_
          rintro z wD ⟨v', A', c', hv', rfl, hd, hbD⟩
          obtain rfl := wofA_eq HV.out hv'
          have HWD : Hid (Below w8.heap.size w8 wD) := Lib.hid (HWC.out.trans (hbD.mono HWC.out.size))
          have HTD := Lib.hid (HTC.out.below hbD)
          have HYD := Lib.hid (HYC.out.keep hbD)
          have HDD := Lib.hid hd
          clear hv' hd hbD HTC HYC HWC HRX2
          go_upto_region 11 with (fail)
          obtain ⟨wE, hwE⟩ : ∃ wE, wE = wD.alloc (.cells #[.int .i64 Q, .int .i64 v, .int .i64 o] 33) := ⟨_, rfl⟩
          have hbE : Below wD.heap.size wD wE := by rw [hwE]; exact (Below.refl _ wD).alloc (Nat.le_refl _) _
          have hTE := Tri.new wD (Q : Int) v o 33
          rw [← hwE] at hTE ⊢
          obtain ⟨bG, hbG⟩ : ∃ bG, wD.heap.size = bG := ⟨_, rfl⟩
          rw [hbG] at hTE ⊢
          have HGE := Lib.hid hTE
          have HTE := Lib.hid (HTD.out.below hbE)
          have HWE : Hid (Below w8.heap.size w8 wE) := Lib.hid (HWD.out.trans (hbE.mono HWD.out.size))
          have hsm := same19 (some ⟨g, 0, none⟩) A' m m m c' _ _ wE (HYD.out.keep hbE) (HDD.out.keep hbE) (by omega) (by omega)
          rw [sameB2_same (fun i _ => rfl)] at hsm
          have HSM := Lib.hid hsm
          clear hwE hbE hTE hbG hsm HTD HYD HDD HWD
          go_wp2_with fail
          refine HSM.out.mono ?_
          rintro z wF ⟨rfl, hqF⟩
          have HWF : Hid (Below w8.heap.size w8 wF) := Lib.hid (HWE.out.trans (hqF.below.mono HWE.out.size))
          obtain ⟨t0, t1, t2⟩ := HTE.out.below hqF.below
          obtain ⟨g0, g1, g2⟩ := HGE.out.below hqF.below
          have HLI2 := Lib.hid (HLI.out wF (HL.out.keep (HB8.out.trans (HWF.out.mono HB8.out.size))))
          clear hqF HSM HTE HGE HWE
          go_wp2_with fail
          refine HLI2.out.mono ?_
          rintro z wG ⟨gX, rfl, -, hxG, hbG⟩
          have HWG : Hid (Below w8.heap.size w8 wG) := Lib.hid (HWF.out.trans (hbG.mono HWF.out.size))
          have hsm := same19 (some ⟨bX, 0, none⟩) (some ⟨gX, 0, none⟩) m m m m _ _ wG (HX8.out.keep HWG.out) hxG (by omega) (by omega)
          rw [sameB2_same (fun i _ => rfl)] at hsm
          have HSM2 := Lib.hid hsm
          clear hxG hbG hsm HLI2 t0 t1 t2 g0 g1 g2
          go_wp2_with fail
          refine HSM2.out.mono ?_
          rintro z wH ⟨rfl, hqH⟩
          have HWH : Hid (Below w8.heap.size w8 wH) := Lib.hid (HWG.out.trans (hqH.below.mono HWG.out.size))
          clear hqH HSM2
          go_wp2
          exact ⟨⟨i + 1, by omega, by go_num, HWH⟩, by simp [intOf]; omega⟩
        · obtain rfl : i = 2 := by omega
          go_wp2
          go_ret
          exact ⟨rfl, HB8.out.trans (hbw.out.mono HB8.out.size)⟩
    · rw [decide_eq_false hsm] at HSM
      clear hsm
      go_wp2_with fail
      refine HSM.out.mono ?_
      rintro z w4 ⟨rfl, hb4⟩
      have HB4 : Hid (Below w.heap.size w w4) := Lib.hid (HB3.out.trans (hb4.mono HB3.out.size))
      clear hb4 HSM p0 p1 p2 p3
      go_wp2_with fail
      refine (HWK.out _).mono ?_
      rintro z w5 ⟨rfl, hb5⟩
      have HB5 : Hid (Below w.heap.size w w5) := Lib.hid (HB4.out.trans (hb5.mono HB4.out.size))
      clear hb5
      go_wp2
      go_ret
      exact ⟨rfl, HB5.out⟩
  · have hdt : decide (checkE kind m r q m = 0) = false := decide_eq_false he
    rw [hdt]
    clear hdt he
    go_wp2_with fail
    refine (HWK.out _).mono ?_
    rintro z w3 ⟨rfl, hb3⟩
    have HB3 : Hid (Below w.heap.size w w3) := Lib.hid (HB2.out.trans (hb3.mono HB2.out.size))
    clear hb3
    go_wp2_with fail
    refine (HWK.out _).mono ?_
    rintro z w4 ⟨rfl, hb4⟩
    have HB4 : Hid (Below w.heap.size w w4) := Lib.hid (HB3.out.trans (hb4.mono HB3.out.size))
    clear hb4
    go_wp2
    go_ret
    exact ⟨rfl, HB4.out⟩
end Go.Proofs.Yteaimnemobnknaa
