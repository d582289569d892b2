/- Contracts of the document: times, Own of a cost. -/
import Derived.Test.YtmgfaeineklccaaGreatMH1
import Derived.Test.YtmgfaeineklccaaGreatMP1
import Derived.Test.YtmgfaeineklccaaGreatMP4
set_option linter.unusedSimpArgs false
set_option linter.unusedVariables false
namespace Go.Proofs.YtmgfaeineklccaaGreat
open Go.RowKit Go.Lib

theorem capI_add {x y : Int} (hx : 0 ≤ x) (hy : 0 ≤ y) : capI (capI x + capI y) = capI (x + y) := by unfold capI; (repeat' split) <;> omega
theorem capI_two {x y z : Int} (hx : 0 ≤ x) (hy : 0 ≤ y) (hz : 0 ≤ z) : capI (capI x + capI y + z) = capI (x + y + z) := by unfold capI; (repeat' split) <;> omega
theorem bit_step (b i : Nat) : b % 2 ^ (i + 1) = b % 2 ^ i + 2 ^ i * (b / 2 ^ i % 2) := by
  rw [Nat.pow_succ, Nat.mod_mul]

set_option maxRecDepth 100000 in
set_option maxHeartbeats 4000000 in
theorem times_any (a b : Nat) (ha : a ≤ 1125899906842624) (hb : b < 131072) (w : World) : Calls Tryz.prog 125 #[.int .i64 a, .int .i64 b] w fun z w' => z = .returned (.int .i64 (capI ((a : Int) * b))) ∧ w = w' := by
  have HCUT := Lib.hid cut_any
  go_enter Tryz.func125, Tryz.ntmps125
  go_wp2
  go_loopw [0, 5, 6] (fun v0 v5 v6 wr => ∃ (i : Nat) (u o : Int), i ≤ 17 ∧ v6 = .int .i64 i ∧ v0 = .int .i64 u ∧ v5 = .int .i64 o ∧ 0 ≤ u ∧ u ≤ 1125899906842624 ∧ 0 ≤ o ∧ o ≤ 1125899906842624 ∧ Hid (u = capI ((a : Int) * (2 ^ i : Nat))) ∧ Hid (o = capI ((a : Int) * (b % 2 ^ i : Nat))) ∧ w = wr) (fun _ _ v6 _ => 17 - (intOf v6).toNat)
  case atStart =>
    have hc : capI (a : Int) = a := by unfold capI; rw [if_pos (by omega)]
    exact ⟨0, a, 0, by omega, rfl, rfl, rfl, by omega, by omega, by omega, by omega, Lib.hid (by rw [Nat.pow_zero]; show (a : Int) = capI ((a : Int) * 1); rw [Int.mul_one, hc]), Lib.hid (by rw [Nat.pow_zero, Nat.mod_one]; show (0 : Int) = capI ((a : Int) * 0); rw [Int.mul_zero]; rfl), rfl⟩
  case round =>
    obtain ⟨i, u, o, hi, rfl, rfl, rfl, hu0, hu1, ho0, ho1, hU, hO, rfl⟩ := hrel
    by_cases hlt : i < 17
    · have hlti : (i : Int) < 17 := by omega
      have hbit := bit_step b i
      have hcast : ((b : Int) / 2 ^ i).tmod 2 = ((b / 2 ^ i % 2 : Nat) : Int) := by
        have e1 : ((b : Int) / 2 ^ i) = ((b / 2 ^ i : Nat) : Int) := by
          rw [Int.natCast_ediv, Int.natCast_pow]; rfl
        rw [e1, Int.tmod_eq_emod_of_nonneg (Int.natCast_nonneg _), Int.natCast_emod]
        rfl
      have hp0 : (0 : Int) ≤ (a : Int) * (2 ^ i : Nat) := Int.mul_nonneg (by omega) (by omega)
      have hp1 : (0 : Int) ≤ (a : Int) * (b % 2 ^ i : Nat) := Int.mul_nonneg (by omega) (by omega)
      have hu2 : capI (u + u) = capI ((a : Int) * (2 ^ (i + 1) : Nat)) := by
        rw [hU.out, capI_add hp0 hp0, Nat.pow_succ, Int.natCast_mul, ← Int.mul_assoc]
        congr 1
        omega
      have hcu := cap_le (u + u) (by omega)
      have HU2 := Lib.hid hu2
      clear hu2 hp0
      rcases Nat.mod_two_eq_zero_or_one (b / 2 ^ i) with hz | hz
      · rw [hz] at hbit hcast
        have hb1 : (((b : Int) / 2 ^ i).tmod 2 == 1) = false := by rw [hcast]; rfl
        have HO2 : Hid (o = capI ((a : Int) * (b % 2 ^ (i + 1) : Nat))) := Lib.hid (by rw [hbit, Nat.mul_zero, Nat.add_zero]; exact hO.out)
        clear hbit hcast hz hp1
        go_wp2_with fail
        refine (HCUT.out _ _).mono ?_
        rintro z w' ⟨rfl, rfl⟩
        go_wp2
        exact ⟨⟨i + 1, _, o, by omega, by go_num, rfl, rfl, hcu.1, hcu.2, ho0, ho1, HU2, HO2, trivial⟩, by simp [intOf]; omega⟩
      · rw [hz] at hbit hcast
        have hb1 : (((b : Int) / 2 ^ i).tmod 2 == 1) = true := by rw [hcast]; rfl
        have hco := cap_le (o + u) (by omega)
        have HO2 : Hid (capI (o + u) = capI ((a : Int) * (b % 2 ^ (i + 1) : Nat))) := Lib.hid (by
          rw [hbit, Nat.mul_one, hO.out, hU.out, capI_add hp1 (Int.mul_nonneg (by omega) (by omega)), Int.natCast_add, Int.mul_add])
        clear hbit hcast hz hp1
        go_wp2_with fail
        refine (HCUT.out _ _).mono ?_
        rintro z w' ⟨rfl, rfl⟩
        go_wp2_with fail
        refine (HCUT.out _ _).mono ?_
        rintro z w' ⟨rfl, rfl⟩
        go_wp2
        exact ⟨⟨i + 1, _, _, by omega, by go_num, rfl, rfl, hcu.1, hcu.2, hco.1, hco.2, HU2, HO2, trivial⟩, by simp [intOf]; omega⟩
    · obtain rfl : i = 17 := by omega
      have hbm : b % 2 ^ 17 = b := Nat.mod_eq_of_lt (by omega)
      have HE : Hid (o = capI ((a : Int) * b)) := Lib.hid (by rw [hO.out, hbm])
      clear hO hbm
      go_wp2
      go_ret
      exact ⟨by rw [← HE.out]; rfl, rfl⟩
theorem times_int (a b : Int) (h0 : 0 ≤ a) (ha : a ≤ 1125899906842624) (h1 : 0 ≤ b) (hb : b < 131072) (w : World) : Calls Tryz.prog 125 #[.int .i64 a, .int .i64 b] w fun z w' => z = .returned (.int .i64 (capI (a * b))) ∧ w = w' := by
  obtain ⟨x, rfl⟩ : ∃ x : Nat, a = x := ⟨a.toNat, by omega⟩
  obtain ⟨y, rfl⟩ : ∃ y : Nat, b = y := ⟨b.toNat, by omega⟩
  exact times_any x y (by omega) (by omega) w

set_option maxRecDepth 100000 in
set_option maxHeartbeats 4000000 in
theorem ROwn_cost (n : Nat) (blue : Bool) (kind r : Int) (hcd : Cand n blue kind r) (h2 : kind = 2 → 4 ≤ n) (h1 : 1 ≤ n) (hn : n ≤ 32768) (A : Option Addr) (l c : Nat) (ks : List Int) (K : Option Addr) (ck : Nat) (w : World)
    (hl : ks.length = (wantsF kind n r).length) (hk : IntsAt w K ks.length (fun i => ks.getD i 0)) (hc : CkOk ks) :
    Calls Tryz.prog 72 #[plV kind n r A l c, .slice K ks.length ck, .bool false] w fun z w' => z = .returned (.int .i64 (costF kind n r ks)) ∧ Below w.heap.size w w' := by
  have HC := Lib.hid hc
  have HCUT := Lib.hid cut_any
  have HTM := Lib.hid times_int
  have HLG := Lib.hid (fun w => RLog_any n (by omega) w)
  have HLE := Lib.hid (logN_le (n := n) h1 hn)
  have HK : Hid (∀ i, i < ks.length → ∃ b o, K = some ⟨b, o, none⟩ ∧ w.cell? ⟨b, o + i, none⟩ = some (.int .i64 (ks.getD i 0))) := Lib.hid hk
  have HB0 := Lib.hid ((Below.refl _ w).alloc (Nat.le_refl _) (.cells #[.int .i64 kind, .int .i64 n, .int .i64 r, .slice A l c] 30))
  have HP0 := Lib.hid (PlBox.new w kind n r A l c 30)
  obtain ⟨W, hW⟩ : ∃ W, W = w.alloc (.cells #[.int .i64 kind, .int .i64 n, .int .i64 r, .slice A l c] 30) := ⟨_, rfl⟩
  rw [← hW] at HB0 HP0
  have HWN : Hid (∀ w, Calls Tryz.prog 69 #[plV kind n r A l c] w fun z w' => ∃ A', z = .returned (.slice A' ks.length ks.length) ∧ IntsAt w' A' ks.length (fun i => (wantsF kind n r).getD i 0) ∧ Below w.heap.size w w') := Lib.hid (fun w => by
    refine (RWants_any kind n r A l c w (by omega) (by omega) (fun h4 => by
      rcases hcd with ⟨h, _⟩ | ⟨h, _⟩ | ⟨h, _⟩ | ⟨h, _⟩ | ⟨_, _, _, _, h⟩ <;> omega)).mono ?_
    rintro z w' ⟨⟨A', rfl, hi, -⟩, hb⟩
    rw [← hl] at hi ⊢
    exact ⟨A', rfl, hi, hb⟩)
  have HW := Lib.hid hW
  have HN : Hid (1 ≤ n ∧ n ≤ 32768) := Lib.hid (And.intro h1 hn)
  clear hW hc hk
  rcases hcd with ⟨rfl, rfl⟩ | ⟨rfl, rfl⟩ | ⟨rfl, p, d, rfl, hp, hd, hpd⟩ | ⟨rfl, rfl, h3⟩ | ⟨rfl, rfl, rfl, h3, h4⟩
  · have hl2 : ks.length = 0 := by rw [hl]; rfl
    have HE : Hid (costF 0 n 0 ks = capI (6 * n * n)) := Lib.hid rfl
    obtain ⟨s1, hs1⟩ : ∃ s1, wrap64 (6 * (n : Int)) = s1 := ⟨_, rfl⟩
    have hs1' : s1 = 6 * (n : Int) := by rw [← hs1]; unfold wrap64; omega
    have hm := Int.mul_le_mul (show s1 ≤ 196608 by omega) (show (n : Int) ≤ 32768 by omega) (by omega) (by omega)
    have hm0 := Int.mul_nonneg (show 0 ≤ s1 by omega) (show (0 : Int) ≤ n by omega)
    obtain ⟨s2, hs2⟩ : ∃ s2, wrap64 (s1 * (n : Int)) = s2 := ⟨_, rfl⟩
    have HS : Hid (s2 = 6 * (n : Int) * n) := Lib.hid (by rw [← hs2, ← hs1']; unfold wrap64; omega)
    rw [hl2] at HWN ⊢
    clear HK hl HC h2 h1 hn hl2 HLE hs1' hm hm0
    go_enter Tryz.func72, Tryz.ntmps72
    go_wp2_with fail
    rw [← HW.out]
    refine (HWN.out _).mono ?_
    rintro z w2 ⟨A', rfl, hwi, hbw⟩
    obtain ⟨p0, p1, p2, p3⟩ := HP0.out.below hbw
    have HB2 := Lib.hid (HB0.out.trans (hbw.mono HB0.out.size))
    clear hbw hwi
    go_wp2_with fail
    refine (HLG.out _).mono ?_
    rintro z w' ⟨rfl, rfl⟩
    go_wp2_with fail
    refine (HCUT.out _ _).mono ?_
    rintro z w' ⟨rfl, rfl⟩
    go_wp2
    go_ret
    exact ⟨by rw [HE.out, ← HS.out, ← hs2]; rfl, HB2.out⟩
  · have hl2 : ks.length = 0 := by rw [hl]; rfl
    have HE : Hid (costF 2 n 0 ks = capI (4 * n * logN n)) := Lib.hid rfl
    have hle := HLE.out
    obtain ⟨L, hL⟩ : ∃ L : Int, (logN n : Int) = L := ⟨_, rfl⟩
    have hL1 : 0 ≤ L ∧ L ≤ 15 := by omega
    obtain ⟨s1, hs1⟩ : ∃ s1, wrap64 (4 * (n : Int)) = s1 := ⟨_, rfl⟩
    have hs1' : s1 = 4 * (n : Int) := by rw [← hs1]; unfold wrap64; omega
    have hm := Int.mul_le_mul (show s1 ≤ 131072 by omega) hL1.2 (by omega) (by omega)
    have hm0 := Int.mul_nonneg (show 0 ≤ s1 by omega) hL1.1
    obtain ⟨s2, hs2⟩ : ∃ s2, wrap64 (s1 * L) = s2 := ⟨_, rfl⟩
    have HS : Hid (s2 = 4 * (n : Int) * L) := Lib.hid (by rw [← hs2, ← hs1']; unfold wrap64; omega)
    rw [hL] at HE HLG
    rw [hl2] at HWN ⊢
    clear HK hl HC h2 h1 hn hl2 HLE hs1' hm hm0 hL hL1 hle
    go_enter Tryz.func72, Tryz.ntmps72
    go_wp2_with fail
    rw [← HW.out]
    refine (HWN.out _).mono ?_
    rintro z w2 ⟨A', rfl, hwi, hbw⟩
    obtain ⟨p0, p1, p2, p3⟩ := HP0.out.below hbw
    have HB2 := Lib.hid (HB0.out.trans (hbw.mono HB0.out.size))
    clear hbw hwi
    go_wp2_with fail
    refine (HLG.out _).mono ?_
    rintro z w' ⟨rfl, rfl⟩
    go_wp2_with fail
    refine (HCUT.out _ _).mono ?_
    rintro z w' ⟨rfl, rfl⟩
    go_wp2
    go_ret
    exact ⟨by rw [HE.out, ← HS.out, ← hs2]; rfl, HB2.out⟩
  · have hl2 : ks.length = 2 := by rw [hl]; unfold wantsF; rw [if_pos rfl, if_neg (by omega)]; rfl
    have hnr : ((n : Nat) : Int) / (p : Int) = d := by
      rw [← hpd, Int.natCast_mul, Int.mul_ediv_cancel_left _ (by omega)]
    have hwf : wantsF 1 n p = [(p : Int), (d : Int)] := by
      unfold wantsF
      rw [if_pos rfl, if_neg (by omega), hnr]
    obtain ⟨b, o, rfl, c0⟩ := HK.out 0 (by omega)
    obtain ⟨b', o', e, c1⟩ := HK.out 1 (by omega)
    cases e
    have hdle : d ≤ n := by rw [← hpd]; exact Nat.le_mul_of_pos_left d (by omega)
    have hple : p ≤ n := by rw [← hpd]; exact Nat.le_mul_of_pos_right p (by omega)
    have HE : Hid (costF 1 n p ks = capI (ks.getD 0 0 * d + ks.getD 1 0 * p + 6 * n)) := Lib.hid (by unfold costF; rw [if_pos rfl, hnr])
    have HV := Lib.hid (And.intro (HC.out.at' 0) (HC.out.at' 1))
    have HD : Hid (0 ≤ (d : Int) ∧ (d : Int) < 131072 ∧ 0 ≤ (p : Int) ∧ (p : Int) < 131072) := Lib.hid (by omega)
    obtain ⟨k0, hk0⟩ : ∃ k0, ks.getD 0 0 = k0 := ⟨_, rfl⟩
    obtain ⟨kx, hkx⟩ : ∃ kx, ks.getD 1 0 = kx := ⟨_, rfl⟩
    rw [hk0] at c0 HV HE
    rw [hkx] at c1 HV HE
    rw [Nat.add_zero] at c0
    obtain ⟨u, hu⟩ : ∃ u, capI (k0 * d) = u := ⟨_, rfl⟩
    obtain ⟨v, hv⟩ : ∃ v, capI (kx * p) = v := ⟨_, rfl⟩
    have q1 := Int.mul_nonneg HV.out.1.1 HD.out.1
    have q2 := Int.mul_nonneg HV.out.2.1 HD.out.2.2.1
    have huv : (0 ≤ u ∧ u ≤ 1125899906842624) ∧ (0 ≤ v ∧ v ≤ 1125899906842624) := by rw [← hu, ← hv]; exact ⟨cap_le _ q1, cap_le _ q2⟩
    obtain ⟨s1, hs1⟩ : ∃ s1, wrap64 (u + v) = s1 := ⟨_, rfl⟩
    have hs1' : s1 = u + v := by rw [← hs1]; unfold wrap64; omega
    obtain ⟨s2, hs2⟩ : ∃ s2, wrap64 (6 * (n : Int)) = s2 := ⟨_, rfl⟩
    have hs2' : s2 = 6 * (n : Int) := by rw [← hs2]; unfold wrap64; omega
    obtain ⟨s3, hs3⟩ : ∃ s3, wrap64 (s1 + s2) = s3 := ⟨_, rfl⟩
    have hs3' : s3 = s1 + s2 := by rw [← hs3]; unfold wrap64; omega
    have HS : Hid (capI s3 = costF 1 n p ks) := Lib.hid (by rw [HE.out, hs3', hs1', hs2', ← hu, ← hv, capI_two q1 q2 (by omega)])
    have HUV := Lib.hid (And.intro hu hv)
    rw [hl2, hwf] at HWN
    rw [hl2]
    clear HK hl HC h2 h1 hn hl2 HLE hk0 hkx hwf hnr hdle hple hp hd hpd hs1' hs2' hs3' hu hv q1 q2 huv HE
    go_enter Tryz.func72, Tryz.ntmps72
    go_wp2_with fail
    rw [← HW.out]
    refine (HWN.out _).mono ?_
    rintro z w2 ⟨A', rfl, hwi, hbw⟩
    obtain ⟨p0, p1, p2, p3⟩ := HP0.out.below hbw
    have HB2 := Lib.hid (HB0.out.trans (hbw.mono HB0.out.size))
    have HC0 := Lib.hid (keep_cell HB2.out c0)
    have HC1 := Lib.hid (keep_cell HB2.out c1)
    obtain ⟨bw, ow, rfl, d0'⟩ := hwi 0 (by omega)
    obtain ⟨bw', ow', e, d1'⟩ := hwi 1 (by omega)
    cases e
    have d0 : w2.cell? ⟨bw, ow, none⟩ = some (.int .i64 p) := d0'
    have d1 : w2.cell? ⟨bw, ow + 1, none⟩ = some (.int .i64 d) := d1'
    have HD0 := Lib.hid d0
    have HD1 := Lib.hid d1
    clear c0 c1 d0' d1' d0 d1
    clear hbw hwi
    go_wp2_with fail
    refine (HLG.out _).mono ?_
    rintro z w' ⟨rfl, rfl⟩
    go_upto_region 8 with (fail)
    clear p0 p1 p2 p3
    refine wp_region_S (fun w' => w'.cell? ⟨b, o, none⟩ = some (.int .i64 k0) ∧ w'.cell? ⟨bw, ow + 1, none⟩ = some (.int .i64 d)) 6 (by kernel_rfl) ?_
    have hS0 := (⟨HC0.out, HD1.out⟩ : w2.drew.cell? ⟨b, o, none⟩ = some (.int .i64 k0) ∧ w2.drew.cell? ⟨bw, ow + 1, none⟩ = some (.int .i64 d))
    refine Takes.intro [0,1,2,3,4,5] ?_
    repeat (refine Takes.step (v := ?_) (by kernel_rfl) rfl (fun _ _ _ h => h) rfl hS0 (fun w hSw => by (try dsimp only at hSw); go_simp; try with_reducible rfl) ?_; try simp only [List.getElem_toArray, List.getElem_cons_zero, List.getElem_cons_succ, Act.put, List.setIfInBounds_toArray, List.set_cons_zero, List.set_cons_succ])
    refine Takes.nil ?_
    refine wpAnyS_end 2 6 (by kernel_rfl) (by decide) rfl ?_
    simp only [List.toList_toArray, List.drop_succ_cons, List.drop_zero]
    clear hS0
    go_wp2_with fail
    refine (HTM.out k0 d HV.out.1.1 HV.out.1.2 HD.out.1 HD.out.2.1 _).mono ?_
    rintro z w' ⟨rfl, rfl⟩
    rw [HUV.out.1]
    go_upto_region 9 with (fail)
    refine wp_region_S (fun w' => w'.cell? ⟨b, o + 1, none⟩ = some (.int .i64 kx) ∧ w'.cell? ⟨bw, ow, none⟩ = some (.int .i64 p)) 6 (by kernel_rfl) ?_
    have hS0 := (⟨HC1.out, HD0.out⟩ : w2.drew.drew.cell? ⟨b, o + 1, none⟩ = some (.int .i64 kx) ∧ w2.drew.drew.cell? ⟨bw, ow, none⟩ = some (.int .i64 p))
    refine Takes.intro [0,1,2,3,4,5] ?_
    repeat (refine Takes.step (v := ?_) (by kernel_rfl) rfl (fun _ _ _ h => h) rfl hS0 (fun w hSw => by (try dsimp only at hSw); go_simp; try with_reducible rfl) ?_; try simp only [List.getElem_toArray, List.getElem_cons_zero, List.getElem_cons_succ, Act.put, List.setIfInBounds_toArray, List.set_cons_zero, List.set_cons_succ])
    refine Takes.nil ?_
    refine wpAnyS_end 2 6 (by kernel_rfl) (by decide) rfl ?_
    simp only [List.toList_toArray, List.drop_succ_cons, List.drop_zero]
    clear hS0
    go_wp2_with fail
    refine (HTM.out kx p HV.out.2.1 HV.out.2.2 HD.out.2.2.1 HD.out.2.2.2 _).mono ?_
    rintro z w' ⟨rfl, rfl⟩
    rw [HUV.out.2]
    go_wp2_with fail
    refine (HCUT.out _ _).mono ?_
    rintro z w' ⟨rfl, rfl⟩
    go_wp2
    go_ret
    exact ⟨by rw [← HS.out, ← hs3]; rfl, HB2.out.drew.drew⟩
  · have hl2 : ks.length = 1 := by rw [hl]; rfl
    obtain ⟨b, o, rfl, c0⟩ := HK.out 0 (by omega)
    have HE : Hid (costF 3 n 0 ks = capI (ks.getD 0 0 * 2 + 10 * n)) := Lib.hid rfl
    have hv := HC.out.at' 0
    obtain ⟨k0, hk0⟩ : ∃ k0, ks.getD 0 0 = k0 := ⟨_, rfl⟩
    rw [hk0] at c0 hv HE
    rw [Nat.add_zero] at c0
    obtain ⟨s1, hs1⟩ : ∃ s1, wrap64 (2 * k0) = s1 := ⟨_, rfl⟩
    have hs1' : s1 = 2 * k0 := by rw [← hs1]; unfold wrap64; omega
    obtain ⟨s2, hs2⟩ : ∃ s2, wrap64 (10 * (n : Int)) = s2 := ⟨_, rfl⟩
    have hs2' : s2 = 10 * (n : Int) := by rw [← hs2]; unfold wrap64; omega
    obtain ⟨s3, hs3⟩ : ∃ s3, wrap64 (s1 + s2) = s3 := ⟨_, rfl⟩
    have hs3' : s3 = s1 + s2 := by rw [← hs3]; unfold wrap64; omega
    have HS : Hid (capI s3 = costF 3 n 0 ks) := Lib.hid (by rw [HE.out, hs3', hs1', hs2', Int.mul_comm])
    rw [hl2] at HWN ⊢
    clear HK hl HC h2 h1 hn hl2 HLE hk0 hs1' hs2' hs3' HE hv
    go_enter Tryz.func72, Tryz.ntmps72
    go_wp2_with fail
    rw [← HW.out]
    refine (HWN.out _).mono ?_
    rintro z w2 ⟨A', rfl, hwi, hbw⟩
    obtain ⟨p0, p1, p2, p3⟩ := HP0.out.below hbw
    have HB2 := Lib.hid (HB0.out.trans (hbw.mono HB0.out.size))
    have hc0 := keep_cell HB2.out c0
    clear c0
    clear hbw hwi
    go_wp2_with fail
    refine (HLG.out _).mono ?_
    rintro z w' ⟨rfl, rfl⟩
    go_wp2_with fail
    refine (HCUT.out _ _).mono ?_
    rintro z w' ⟨rfl, rfl⟩
    go_wp2
    go_ret
    exact ⟨by rw [← HS.out, ← hs3]; rfl, HB2.out⟩
  · have hl2 : ks.length = 1 := by rw [hl]; rfl
    have hwf : wantsF 4 n 0 = [(padF n : Int)] := rfl
    have hpf := padF_spec n (by omega) h4
    have HE : Hid (costF 4 n 0 ks = capI (ks.getD 0 0 * 2 + 6 * (padF n : Int) + 12 * n)) := Lib.hid rfl
    rw [hwf] at HWN
    have hpb : padF n ≤ 65536 := by omega
    generalize padF n = d at HE HWN hpb
    obtain ⟨b, o, rfl, c0⟩ := HK.out 0 (by omega)
    have hv := HC.out.at' 0
    obtain ⟨k0, hk0⟩ : ∃ k0, ks.getD 0 0 = k0 := ⟨_, rfl⟩
    rw [hk0] at c0 hv HE
    rw [Nat.add_zero] at c0
    obtain ⟨s1, hs1⟩ : ∃ s1, wrap64 (2 * k0) = s1 := ⟨_, rfl⟩
    have hs1' : s1 = 2 * k0 := by rw [← hs1]; unfold wrap64; omega
    obtain ⟨s2, hs2⟩ : ∃ s2, wrap64 (6 * (d : Int)) = s2 := ⟨_, rfl⟩
    have hs2' : s2 = 6 * (d : Int) := by rw [← hs2]; unfold wrap64; omega
    obtain ⟨s3, hs3⟩ : ∃ s3, wrap64 (s1 + s2) = s3 := ⟨_, rfl⟩
    have hs3' : s3 = s1 + s2 := by rw [← hs3]; unfold wrap64; omega
    obtain ⟨s4, hs4⟩ : ∃ s4, wrap64 (12 * (n : Int)) = s4 := ⟨_, rfl⟩
    have hs4' : s4 = 12 * (n : Int) := by rw [← hs4]; unfold wrap64; omega
    obtain ⟨s5, hs5⟩ : ∃ s5, wrap64 (s3 + s4) = s5 := ⟨_, rfl⟩
    have hs5' : s5 = s3 + s4 := by rw [← hs5]; unfold wrap64; omega
    have HS4 := Lib.hid hs4'
    have HS : Hid (capI s5 = costF 4 n 0 ks) := Lib.hid (by rw [HE.out, hs5', hs4', hs3', hs1', hs2', Int.mul_comm k0])
    rw [hl2] at HWN ⊢
    clear HK hl HC h2 h1 hn hl2 HLE hk0 hs1' hs2' hs3' hs4' hs5' HE hv hpb hpf hwf
    go_enter Tryz.func72, Tryz.ntmps72
    go_wp2_with fail
    rw [← HW.out]
    refine (HWN.out _).mono ?_
    rintro z w2 ⟨A', rfl, hwi, hbw⟩
    obtain ⟨p0, p1, p2, p3⟩ := HP0.out.below hbw
    have HB2 := Lib.hid (HB0.out.trans (hbw.mono HB0.out.size))
    have HC0 := Lib.hid (keep_cell HB2.out c0)
    obtain ⟨bw, ow, rfl, d0'⟩ := hwi 0 (by omega)
    have d0 : w2.cell? ⟨bw, ow, none⟩ = some (.int .i64 d) := d0'
    have HD0 := Lib.hid d0
    clear c0 d0' d0
    clear hbw hwi
    go_wp2_with fail
    refine (HLG.out _).mono ?_
    rintro z w' ⟨rfl, rfl⟩
    go_upto_region 22 with (fail)
    clear p0 p1 p2 p3
    refine wp_region_S (fun w' => w'.cell? ⟨b, o, none⟩ = some (.int .i64 k0) ∧ w'.cell? ⟨bw, ow, none⟩ = some (.int .i64 d)) 11 (by kernel_rfl) ?_
    have hS0 := (⟨HC0.out, HD0.out⟩ : w2.drew.cell? ⟨b, o, none⟩ = some (.int .i64 k0) ∧ w2.drew.cell? ⟨bw, ow, none⟩ = some (.int .i64 d))
    refine Takes.intro [0,1,2,3,4,5,6,7,8,9,10] ?_
    repeat (refine Takes.step (v := ?_) (by kernel_rfl) rfl (fun _ _ _ h => h) rfl hS0 (fun w hSw => by (try dsimp only at hSw); go_simp; try with_reducible rfl) ?_; try simp only [List.getElem_toArray, List.getElem_cons_zero, List.getElem_cons_succ, Act.put, List.setIfInBounds_toArray, List.set_cons_zero, List.set_cons_succ])
    refine Takes.nil ?_
    refine wpAnyS_end 3 11 (by kernel_rfl) (by decide) rfl ?_
    simp only [List.toList_toArray, List.drop_succ_cons, List.drop_zero]
    clear hS0
    go_wp2_with fail
    refine (HCUT.out _ _).mono ?_
    rintro z w' ⟨rfl, rfl⟩
    go_wp2
    go_ret
    exact ⟨by rw [← HS.out, ← hs5, HS4.out]; rfl, HB2.out.drew⟩
end Go.Proofs.YtmgfaeineklccaaGreat
/- Words for the document's search: the book in memory. -/
set_option linter.unusedSimpArgs false
set_option linter.unusedVariables false
namespace Go.Proofs.YtmgfaeineklccaaGreat
open Go.RowKit Go.Lib

theorem nodup_lt : ∀ (N : Nat) (l : List Nat), l.Nodup → (∀ x ∈ l, x < N) → l.length ≤ N
  | 0, l, _, h => by
    rcases l with _ | ⟨x, l⟩
    · exact Nat.le_refl _
    · have := h x List.mem_cons_self; omega
  | N + 1, l, hn, h => by
    by_cases hm : N ∈ l
    · have h1 := nodup_lt N (l.erase N) (hn.erase N) (fun x hx => by
        have h2 := h x (List.mem_of_mem_erase hx)
        have h3 : x ≠ N := fun e => by
          subst e
          exact (List.Nodup.not_mem_erase hn) hx
        omega)
      rw [List.length_erase_of_mem hm] at h1
      omega
    · have h1 := nodup_lt N l hn (fun x hx => by
        have h2 := h x hx
        have h3 : x ≠ N := fun e => hm (e ▸ hx)
        omega)
      omega

/-- An entry of the book. -/
structure EN where
  n : Nat
  blue : Bool
  B : Option Addr
  c : Nat
def enL : List EN → List Value
  | [] => []
  | e :: es => [.int .i64 e.n, .bool e.blue, .int .i64 (bestV e.n e.blue).k, .int .i64 (bestV e.n e.blue).n, .int .i64 (bestV e.n e.blue).r, .slice e.B (bestV e.n e.blue).q.len e.c, .int .i64 (bestV e.n e.blue).c] ++ enL es
theorem enL_len : ∀ es : List EN, (enL es).length = es.length * 7
  | [] => rfl
  | e :: es => by
    have := enL_len es
    simp only [enL, List.length_append, List.length_cons, List.length_nil, this]
    omega
theorem enL_app : ∀ a b : List EN, enL (a ++ b) = enL a ++ enL b
  | [], b => rfl
  | e :: a, b => by
    show _ ++ enL (a ++ b) = (_ ++ enL a) ++ enL b
    rw [enL_app a b, List.append_assoc]
theorem enL_at : ∀ (es : List EN) (i : Nat) (e : EN), es[i]? = some e → ∀ j, j < 7 → (enL es)[i * 7 + j]? = [Value.int .i64 e.n, .bool e.blue, .int .i64 (bestV e.n e.blue).k, .int .i64 (bestV e.n e.blue).n, .int .i64 (bestV e.n e.blue).r, .slice e.B (bestV e.n e.blue).q.len e.c, .int .i64 (bestV e.n e.blue).c][j]?
  | [], i, e, h => by simp at h
  | d :: es, 0, e, h => fun j hj => by
    have : d = e := by simpa using h
    subst this
    show (_ ++ enL es)[0 * 7 + j]? = _
    rw [Nat.zero_mul, Nat.zero_add, List.getElem?_append_left (by simpa using hj)]
  | d :: es, i + 1, e, h => fun j hj => by
    show (_ ++ enL es)[(i + 1) * 7 + j]? = _
    rw [List.getElem?_append_right (by simp; omega)]
    have := enL_at es i e (by simpa using h) j hj
    rw [← this]
    congr 1
    simp
    omega
/-- The blocks of the book, and those of others. -/
def bkS (S : Nat → Prop) (pb : Nat) (v : Value) : Nat → Prop := fun k => S k ∨ k = pb ∨ v.ownBlock = some k
/-- The book in memory. -/
structure BE (S : Nat → Prop) (w : World) (pb : Nat) (v : Value) (es : List EN) : Prop where
  c0 : w.cell? ⟨pb, 0, none⟩ = some v
  fr : w.frozen? ⟨pb, 0, none⟩ = false
  row : w.ownsRow 0 157 7 v es.length (enL es)
  ne : v.ownBlock ≠ some pb
  ent : ∀ e ∈ es, 1 ≤ e.n ∧ e.n ≤ 32768 ∧ KZ (bkS S pb v) w e.B (bestV e.n e.blue).q
  nd : (es.map fun e => 2 * e.n + e.blue.toNat).Nodup
theorem BE.len {S : Nat → Prop} {w : World} {pb : Nat} {v : Value} {es : List EN} (h : BE S w pb v es) : es.length ≤ 65538 := by
  have := nodup_lt 65538 _ h.nd (fun x hx => by
    rw [List.mem_map] at hx
    obtain ⟨e, he, rfl⟩ := hx
    have := h.ent e he
    have : e.blue.toNat ≤ 1 := by cases e.blue <;> simp
    omega)
  simpa using this
theorem BE.pl {S : Nat → Prop} {w : World} {pb : Nat} {v : Value} {es : List EN} (h : BE S w pb v es) : pb < w.heap.size := cell_lt h.c0
theorem BE.gl {S : Nat → Prop} {w : World} {pb : Nat} {v : Value} {es : List EN} (h : BE S w pb v es) : ∀ g, v.ownBlock = some g → g < w.heap.size := fun g e => (World.ownsRow.lt h.row g e).2
/-- Others' blocks are written, new ones made. -/
theorem BE.only {S T U : Nat → Prop} {w w1 : World} {pb : Nat} {v : Value} {es : List EN} (h : BE S w pb v es) (ho : OnlyZ U w w1) (hU : ∀ k, k < w.heap.size → U k → S k ∧ k ≠ pb ∧ v.ownBlock ≠ some k) (hT : ∀ k, k < w.heap.size → T k → bkS S pb v k) : BE T w1 pb v es :=
  ⟨cell_same h.c0 (ho.block pb h.pl fun u => (hU pb h.pl u).2.1 rfl), (World.frozen?_of_block (w := w) (a := ⟨pb, 0, none⟩) (ho.block pb h.pl fun u => (hU pb h.pl u).2.1 rfl)).trans h.fr,
    owns_same h.row fun g e => ho.block g (h.gl g e) fun u => (hU g (h.gl g e) u).2.2 e, h.ne, fun e he => by
    obtain ⟨h1, h2, h3⟩ := h.ent e he
    exact ⟨h1, h2, h3.move ho.size (fun k hk hn => ho.block k hk fun u => hn (.inl (hU k hk u).1)) fun k hk t => by
      rcases t with t | t | t
      · exact hT k hk t
      · exact .inr (.inl t)
      · exact .inr (.inr t)⟩, h.nd⟩

/-- What the document's Best hands back. -/
def BestP (S : Nat → Prop) (w : World) (pb n : Nat) (blue : Bool) (v : Value) (es : List EN) (z : Ending) (w' : World) : Prop := ∃ (B : Option Addr) (c : Nat) (v' : Value) (es' : List EN),
    z = .returned (.agg #[.int .i64 n, .bool blue, .int .i64 (bestV n blue).k, .int .i64 (bestV n blue).n, .int .i64 (bestV n blue).r, .slice B (bestV n blue).q.len c, .int .i64 (bestV n blue).c]) ∧
    KZ (bkS S pb v') w' B (bestV n blue).q ∧ BE S w' pb v' es' ∧ (∀ e ∈ es', e ∈ es ∨ deepB e.n e.blue ≤ deepB n blue) ∧ OnlyZ (fun k => k = pb ∨ v.ownBlock = some k) w w' ∧ (v'.ownBlock = v.ownBlock ∨ ∀ g, v'.ownBlock = some g → w.heap.size ≤ g)
/-- What it says. -/
def BestC (n : Nat) (blue : Bool) : Prop := ∀ (S : Nat → Prop) (w : World) (pb : Nat) (v : Value) (es : List EN), BE S w pb v es → ¬ S pb → (∀ k, S k → k < w.heap.size) → (∀ k, v.ownBlock = some k → ¬ S k) →
  Calls Tryz.prog 94 #[.pointer (some ⟨pb, 0, none⟩), .int .i64 n, .bool blue] w (BestP S w pb n blue v es)
/-- What try hands back. -/
def TryP (S : Nat → Prop) (w : World) (pb n : Nat) (blue : Bool) (k r : Int) (v : Value) (es : List EN) (z : Ending) (w' : World) : Prop := ∃ (B : Option Addr) (c : Nat) (v' : Value) (es' : List EN),
    z = .returned (.agg #[.int .i64 n, .bool blue, .int .i64 k, .int .i64 n, .int .i64 r, .slice B (tryB bestV n blue (k, r)).q.len c, .int .i64 (tryB bestV n blue (k, r)).c]) ∧
    KZ (bkS S pb v') w' B (tryB bestV n blue (k, r)).q ∧ BE S w' pb v' es' ∧ (∀ e ∈ es', e ∈ es ∨ deepB e.n e.blue < deepB n blue) ∧ OnlyZ (fun k => k = pb ∨ v.ownBlock = some k) w w' ∧ (v'.ownBlock = v.ownBlock ∨ ∀ g, v'.ownBlock = some g → w.heap.size ≤ g)

/-- The blocks that must be apart from the book's. -/
def trS (S : Nat → Prop) (w : World) (Bk : Option Addr) (j cb : Nat) (vc : Value) : Nat → Prop := fun i => S i ∨ i = w.heap.size ∨ i = w.heap.size + 1 ∨ vc.ownBlock = some i ∨ (Value.slice Bk j cb).ownBlock = some i
/-- What a round of try keeps: its plan's box, the kids so far, their costs, the book. -/
structure TB (S : Nat → Prop) (w W : World) (pb n : Nat) (blue : Bool) (k r : Int) (v0 : Value) (es0 : List EN) (b : Bool) (ws : List Int) (A' : Option Addr) (T : Nat) (Bk : Option Addr) (j cb : Nat) (vc v : Value) (es : List EN) : Prop where
  o : OnlyZ (fun i => i = pb ∨ v0.ownBlock = some i) w W
  pb4 : PlBox W w.heap.size k n r Bk j cb ∧ PlFree W w.heap.size
  rb : (∀ i u, [Value.int .i64 0, .bool false, .int .i64 0, .int .i64 0, .int .i64 0, .slice none 0 0, .int .i64 0][i]? = some u → W.cell? ⟨w.heap.size + 1, i, none⟩ = some u) ∧ ∀ i, i < 7 → W.frozen? ⟨w.heap.size + 1, i, none⟩ = false
  row : RowQ (fun i => bkS S pb v i ∨ i = w.heap.size ∨ i = w.heap.size + 1 ∨ vc.ownBlock = some i) T 30 W (.slice Bk j cb) (kidsB bestV b (ws.take j))
  cost : OwnI W T vc (costsB bestV b (ws.take j))
  ap : ∀ g, (Value.slice Bk j cb).ownBlock = some g → vc.ownBlock ≠ some g
  apv : ∀ g, v.ownBlock = some g → g ≠ w.heap.size ∧ g ≠ w.heap.size + 1 ∧ vc.ownBlock ≠ some g ∧ (Value.slice Bk j cb).ownBlock ≠ some g
  be : BE (trS S w Bk j cb vc) W pb v es
  vv : v.ownBlock = v0.ownBlock ∨ ∀ g, v.ownBlock = some g → w.heap.size ≤ g
  wt : IntsAt W A' ws.length (fun i => ws.getD i 0)
  wg : 0 < ws.length → ∀ bb o, A' = some ⟨bb, o, none⟩ → w.heap.size + 2 ≤ bb ∧ bb < T ∧ v.ownBlock ≠ some bb
  sz : w.heap.size + 2 ≤ T ∧ T ≤ W.heap.size
  es : ∀ e ∈ es, e ∈ es0 ∨ deepB e.n e.blue < deepB n blue
  sp : ¬ S pb
  sv : ∀ g, v.ownBlock = some g → ¬ S g
  sl : ∀ i, S i → i < W.heap.size
  pl : pb < w.heap.size
section
variable {S : Nat → Prop} {w W W' : World} {pb n : Nat} {blue : Bool} {k r : Int} {v0 : Value} {es0 : List EN} {b : Bool} {ws : List Int} {A' : Option Addr} {T : Nat} {Bk : Option Addr} {j cb : Nat} {vc v : Value} {es : List EN}
theorem TB.ask (h : TB S w W pb n blue k r v0 es0 b ws A' T Bk j cb vc v es) : ¬ trS S w Bk j cb vc pb ∧ (∀ i, trS S w Bk j cb vc i → i < W.heap.size) ∧ ∀ g, v.ownBlock = some g → ¬ trS S w Bk j cb vc g := by
  have h1 := h.pl
  have h2 := h.sz
  refine ⟨?_, ?_, fun g e => ?_⟩
  · rintro (e | e | e | e | e)
    · exact h.sp e
    · omega
    · omega
    · have := (h.cost.lt pb e).1; omega
    · have := (h.row.lt pb e).1; omega
  · rintro i (e | e | e | e | e)
    · exact h.sl i e
    · omega
    · omega
    · exact (h.cost.lt i e).2
    · exact (h.row.lt i e).2
  · have a := h.apv g e
    rintro (e2 | e2 | e2 | e2 | e2)
    · exact h.sv g e e2
    · exact a.1 e2
    · exact a.2.1 e2
    · exact a.2.2.1 e2
    · exact a.2.2.2 e2
/-- A nested Best. -/
theorem TB.next {v' : Value} {es' : List EN} (h : TB S w W pb n blue k r v0 es0 b ws A' T Bk j cb vc v es) (ho : OnlyZ (fun i => i = pb ∨ v.ownBlock = some i) W W') (hb : BE (trS S w Bk j cb vc) W' pb v' es') (hv : v'.ownBlock = v.ownBlock ∨ ∀ g, v'.ownBlock = some g → W.heap.size ≤ g)
    (hes : ∀ e ∈ es', e ∈ es0 ∨ deepB e.n e.blue < deepB n blue) : TB S w W' pb n blue k r v0 es0 b ws A' T Bk j cb vc v' es' := by
  have h1 := h.pl
  have h2 := h.sz
  have hcl := h.cost.lt
  have hrl := h.row.lt
  have hsz := ho.size
  have old : ∀ i, i < W.heap.size → v'.ownBlock = some i → v.ownBlock = some i := fun i hi e => by
    rcases hv with f | f
    · rw [← f]; exact e
    · have := f i e; omega
  have hbl : ∀ i, i < W.heap.size → i ≠ pb → v.ownBlock ≠ some i → W'.heap[i]? = W.heap[i]? := fun i hi a c => ho.block i hi (by
    rintro (e | e)
    · exact a e
    · exact c e)
  have n0 : v.ownBlock ≠ some w.heap.size := fun e => (h.apv _ e).1 rfl
  have n1 : v.ownBlock ≠ some (w.heap.size + 1) := fun e => (h.apv _ e).2.1 rfl
  refine ⟨h.o.trans' ho ?_, ⟨h.pb4.1.same (hbl _ (by omega) (by omega) n0), h.pb4.2.same (hbl _ (by omega) (by omega) n0)⟩, ⟨fun i u e => cell_same (h.rb.1 i u e) (hbl _ (by omega) (by omega) n1), fun i hi => (World.frozen?_of_block (w := W) (a := ⟨w.heap.size + 1, i, none⟩) (hbl (w.heap.size + 1) (by omega) (by omega) n1)).trans (h.rb.2 i hi)⟩, ?_, h.cost.same fun i e => hbl i (hcl i e).2 (by have := (hcl i e).1; omega) (fun e2 => (h.apv i e2).2.2.1 e), h.ap, fun g e => ?_, hb, ?_, h.wt.same fun h0 bb o e => ?_, fun h0 bb o e => ?_, ⟨h2.1, by omega⟩, hes, h.sp, fun g e => ?_, fun i e => by have := h.sl i e; omega, h1⟩
  · rintro i hi (e | e)
    · exact .inl e
    · rcases h.vv with f | f
      · exact .inr (by rw [← f]; exact e)
      · have := f i e; omega
  · obtain ⟨xs, o1, o2⟩ := h.row
    refine ⟨xs, owns_same o1 fun i e => hbl i (hrl i e).2 (by have := (hrl i e).1; omega) (fun e2 => (h.apv i e2).2.2.2 e), o2.map fun _ _ hk => hk.move hsz (fun i hi hn => ho.block i hi fun e => hn (.inl (.inl (.inr e)))) fun i hi e => ?_⟩
    rcases e with (e | e) | e
    · rcases e with e | e | e
      · exact .inl (.inl (.inl e))
      · exact .inl (.inl (.inr (.inl e)))
      · exact .inl (.inl (.inr (.inr (old i hi e))))
    · exact .inl (.inr e)
    · exact .inr e
  · rcases hv with f | f
    · exact h.apv g (by rw [← f]; exact e)
    · have := f g e
      refine ⟨by omega, by omega, fun e2 => ?_, fun e2 => ?_⟩
      · have := (hcl g e2).2; omega
      · have := (hrl g e2).2; omega
  · rcases hv with f | f
    · rw [f]; exact h.vv
    · exact .inr fun g e => by have := f g e; omega
  · have := h.wg h0 bb o e
    exact hbl bb (by omega) (by omega) this.2.2
  · have := h.wg h0 bb o e
    refine ⟨this.1, this.2.1, fun e2 => ?_⟩
    exact this.2.2 (old bb (by omega) e2)
  · rcases hv with f | f
    · exact h.sv g (by rw [← f]; exact e)
    · intro e2
      have := f g e
      have := h.sl g e2
      omega
/-- Something new is made; the set may take it in. -/
theorem TB.new {S' : Nat → Prop} (h : TB S w W pb n blue k r v0 es0 b ws A' T Bk j cb vc v es) (hb : Below W.heap.size W W') (hS : ∀ i, S' i → (S i ∨ W.heap.size ≤ i) ∧ i < W'.heap.size) : TB S' w W' pb n blue k r v0 es0 b ws A' T Bk j cb vc v es := by
  have h1 := h.pl
  have h2 := h.sz
  have hcl := h.cost.lt
  have hrl := h.row.lt
  have hgl := h.be.gl
  have hsz := hb.size
  have hzn : OnlyZ (fun _ => False) W W' := OnlyZ.of_below hb fun k a b => by omega
  refine ⟨h.o.trans (OnlyZ.of_below hb fun k a b => by omega), ⟨h.pb4.1.below hb, h.pb4.2.keep hb (by omega)⟩, ⟨fun i u e => keep_cell hb (h.rb.1 i u e), fun i hi => (World.frozen?_of_block (w := W) (a := ⟨w.heap.size + 1, i, none⟩) (hb.block (w.heap.size + 1) (by omega))).trans (h.rb.2 i hi)⟩, ?_, h.cost.same fun i e => hb.block i (hcl i e).2, h.ap, h.apv, h.be.only hzn (fun _ _ f => f.elim) fun i hi e => ?_, h.vv, h.wt.keep hb, h.wg, ⟨h2.1, by omega⟩, h.es, fun e => ?_, fun g e e2 => ?_, fun i e => (hS i e).2, h1⟩
  · obtain ⟨xs, o1, o2⟩ := h.row
    refine ⟨xs, owns_same o1 fun i e => hb.block i (hrl i e).2, o2.map fun _ _ hk => hk.move hsz (fun i hi _ => hb.block i hi) fun i hi e => ?_⟩
    rcases e with (e | e) | e
    · rcases e with e | e
      · rcases (hS i e).1 with f | f
        · exact .inl (.inl (.inl f))
        · omega
      · exact .inl (.inl (.inr e))
    · exact .inl (.inr e)
    · exact .inr e
  · rcases e with e | e
    · rcases (hS i e).1 with f | f
      · exact .inl (.inl f)
      · omega
    · exact .inl (.inr e)
  · rcases (hS pb e).1 with f | f
    · exact h.sp f
    · omega
  · rcases (hS g e2).1 with f | f
    · exact h.sv g e f
    · have := hgl g e; omega
/-- A block of the set that is nothing of the book's is written, and left out. -/
theorem TB.drop {S' U : Nat → Prop} (h : TB S w W pb n blue k r v0 es0 b ws A' T Bk j cb vc v es) (ho : OnlyZ U W W') (hU : ∀ i, U i → S i ∧ T ≤ i ∧ vc.ownBlock ≠ some i ∧ (Value.slice Bk j cb).ownBlock ≠ some i) (hS : ∀ i, S' i → S i) : TB S' w W' pb n blue k r v0 es0 b ws A' T Bk j cb vc v es := by
  have h1 := h.pl
  have h2 := h.sz
  have hcl := h.cost.lt
  have hrl := h.row.lt
  have hgl := h.be.gl
  have hsz := ho.size
  have hbl : ∀ i, i < T → W'.heap[i]? = W.heap[i]? := fun i hi => ho.block i (by omega) fun u => by have := (hU i u).2.1; omega
  refine ⟨h.o.trans' ho fun i hi u => by have := (hU i u).2.1; omega, ⟨h.pb4.1.same (hbl _ (by omega)), h.pb4.2.same (hbl _ (by omega))⟩, ⟨fun i u e => cell_same (h.rb.1 i u e) (hbl _ (by omega)), fun i hi => (World.frozen?_of_block (w := W) (a := ⟨w.heap.size + 1, i, none⟩) (hbl (w.heap.size + 1) (by omega))).trans (h.rb.2 i hi)⟩, ?_, h.cost.same fun i e => ho.block i (hcl i e).2 fun u => (hU i u).2.2.1 e, h.ap, h.apv, h.be.only ho (fun i hi u => ⟨.inl (hU i u).1, ?_, fun e => h.sv i e (hU i u).1⟩) fun i hi e => ?_, h.vv, h.wt.same fun h0 bb o e => hbl bb (h.wg h0 bb o e).2.1, h.wg, ⟨h2.1, by omega⟩, h.es, fun e => h.sp (hS _ e), fun g e e2 => h.sv g e (hS _ e2), fun i e => by have := h.sl i (hS _ e); omega, h1⟩
  · obtain ⟨xs, o1, o2⟩ := h.row
    refine ⟨xs, owns_same o1 fun i e => ho.block i (hrl i e).2 fun u => (hU i u).2.2.2 e, o2.map fun _ _ hk => hk.move hsz (fun i hi hn => ho.block i hi fun u => hn (.inl (.inl (.inl (hU i u).1)))) fun i hi e => ?_⟩
    rcases e with (e | e) | e
    · rcases e with e | e
      · exact .inl (.inl (.inl (hS i e)))
      · exact .inl (.inl (.inr e))
    · exact .inl (.inr e)
    · exact .inr e
  · intro e
    rw [e] at u
    exact h.sp (hU pb u).1
  · rcases e with e | e
    · exact .inl (.inl (hS i e))
    · exact .inl (.inr e)
/-- A kid more. -/
theorem TB.more (h : TB S w W pb n blue k r v0 es0 b ws A' T Bk j cb vc v es) (hj : j < ws.length) {xs : List Value} {B3 : Option Addr} {c3 g2 cap2 g3 cap3 : Nat} {y : Bst} (hy : bestV (ws.getD j 0).toNat b = y)
    (hxr : RowZ (fun i => (bkS S pb v i ∨ i = w.heap.size ∨ i = w.heap.size + 1 ∨ vc.ownBlock = some i) ∨ (Value.slice Bk j cb).ownBlock = some i) W (kidsB bestV b (ws.take j)) xs) (hlen : (kidsB bestV b (ws.take j)).len = j) (hkz : KZ (bkS (trS S w Bk j cb vc) pb v) W B3 y.q)
    (ho : OnlyZ (fun i => i = w.heap.size ∨ (Value.slice Bk j cb).ownBlock = some i ∨ vc.ownBlock = some i) W W') (hp : PlBox W' w.heap.size k n r (some ⟨g2, 0, none⟩) (j + 1) cap2 ∧ PlFree W' w.heap.size)
    (h2 : W'.ownsRow T 30 4 (.slice (some ⟨g2, 0, none⟩) (j + 1) cap2) (j + 1) (xs ++ [.int .i64 y.k, .int .i64 y.n, .int .i64 y.r, .slice B3 y.q.len c3]))
    (h3 : OwnI W' T (.slice (some ⟨g3, 0, none⟩) (j + 1) cap3) (costsB bestV b (ws.take j) ++ [y.c])) (hne : g2 ≠ g3)
    (f2 : (Value.slice Bk j cb).ownBlock = some g2 ∨ W.heap.size ≤ g2) (f3 : vc.ownBlock = some g3 ∨ W.heap.size ≤ g3) :
    TB S w W' pb n blue k r v0 es0 b ws A' T (some ⟨g2, 0, none⟩) (j + 1) cap2 (.slice (some ⟨g3, 0, none⟩) (j + 1) cap3) v es := by
  have a1 := h.pl
  have a2 := h.sz
  have hcl := h.cost.lt
  have hrl := h.row.lt
  have hgl := h.be.gl
  have hsz := ho.size
  have hg2 : T ≤ g2 := (World.ownsRow.lt h2 g2 rfl).1
  have hg3 : T ≤ g3 := (World.ownsRow.lt h3 g3 rfl).1
  have hbl : ∀ i, i < T → i ≠ w.heap.size → W'.heap[i]? = W.heap[i]? := fun i hi hne => ho.block i (by omega) (by
    rintro (e | e | e)
    · exact hne e
    · have := (hrl i e).1; omega
    · have := (hcl i e).1; omega)
  have e1 : ws.take (j + 1) = ws.take j ++ [ws.getD j 0] := by
    rw [List.take_add_one, List.getD_eq_getElem?_getD, List.getElem?_eq_getElem hj]; rfl
  have e2 : kidsB bestV b (ws.take (j + 1)) = (kidsB bestV b (ws.take j)).snoc y.k y.n y.r y.q := by
    rw [e1, ← hy]
    generalize ws.take j = l
    induction l with
    | nil => rfl
    | cons z l ih =>
      show Fo.cons _ _ _ _ (kidsB bestV b (l ++ [ws.getD j 0])) = Fo.cons _ _ _ _ ((kidsB bestV b l).snoc _ _ _ _)
      rw [ih]
  have e3 : costsB bestV b (ws.take (j + 1)) = costsB bestV b (ws.take j) ++ [y.c] := by
    rw [e1, ← hy]
    unfold costsB
    rw [List.map_append]
    rfl
  have new2 : ∀ i, i < W.heap.size → (Value.slice (some ⟨g2, 0, none⟩) (j + 1) cap2).ownBlock = some i → (Value.slice Bk j cb).ownBlock = some i := fun i hi e => by
    have e : some g2 = some i := e
    injection e with e
    rcases f2 with f | f
    · rw [← e]; exact f
    · omega
  have new3 : ∀ i, i < W.heap.size → (Value.slice (some ⟨g3, 0, none⟩) (j + 1) cap3).ownBlock = some i → vc.ownBlock = some i := fun i hi e => by
    have e : some g3 = some i := e
    injection e with e
    rcases f3 with f | f
    · rw [← e]; exact f
    · omega
  have hU : ∀ i, (i = w.heap.size ∨ (Value.slice Bk j cb).ownBlock = some i ∨ vc.ownBlock = some i) → trS S w Bk j cb vc i := fun i e => by
    rcases e with e | e | e
    · exact .inr (.inl e)
    · exact .inr (.inr (.inr (.inr e)))
    · exact .inr (.inr (.inr (.inl e)))
  have hT : ∀ i, i < W.heap.size → trS S w (some ⟨g2, 0, none⟩) (j + 1) cap2 (.slice (some ⟨g3, 0, none⟩) (j + 1) cap3) i → trS S w Bk j cb vc i := fun i hi e => by
    rcases e with e | e | e | e | e
    · exact .inl e
    · exact .inr (.inl e)
    · exact .inr (.inr (.inl e))
    · exact .inr (.inr (.inr (.inl (new3 i hi e))))
    · exact .inr (.inr (.inr (.inr (new2 i hi e))))
  have big : ∀ i, i < W.heap.size → (((bkS S pb v i ∨ i = w.heap.size ∨ i = w.heap.size + 1 ∨ (Value.slice (some ⟨g3, 0, none⟩) (j + 1) cap3).ownBlock = some i) ∨ (Value.slice (some ⟨g2, 0, none⟩) (j + 1) cap2).ownBlock = some i)) → bkS (trS S w Bk j cb vc) pb v i := fun i hi e => by
    rcases e with (e | e | e | e) | e
    · rcases e with e | e
      · exact .inl (.inl e)
      · exact .inr e
    · exact .inl (.inr (.inl e))
    · exact .inl (.inr (.inr (.inl e)))
    · exact .inl (.inr (.inr (.inr (.inl (new3 i hi e)))))
    · exact .inl (.inr (.inr (.inr (.inr (new2 i hi e)))))
  have key : ∀ D q, KZ (bkS (trS S w Bk j cb vc) pb v) W D q → KZ (fun i => (bkS S pb v i ∨ i = w.heap.size ∨ i = w.heap.size + 1 ∨ (Value.slice (some ⟨g3, 0, none⟩) (j + 1) cap3).ownBlock = some i) ∨ (Value.slice (some ⟨g2, 0, none⟩) (j + 1) cap2).ownBlock = some i) W' D q :=
    fun D q hk => hk.move hsz (fun i hi hn => ho.block i hi fun e => hn (.inl (hU i e))) big
  have key2 : ∀ D q, KZ (fun i => (bkS S pb v i ∨ i = w.heap.size ∨ i = w.heap.size + 1 ∨ vc.ownBlock = some i) ∨ (Value.slice Bk j cb).ownBlock = some i) W D q → KZ (bkS (trS S w Bk j cb vc) pb v) W D q := fun D q hk => hk.mono fun i hi e => by
    rcases e with e | e
    · rcases e with e | e | e | e | e
      · exact .inl (.inl (.inl e))
      · exact .inl (.inr (.inl e))
      · exact .inl (.inr (.inr (.inl e)))
      · exact .inl (.inr (.inr (.inr e)))
      · exact .inr e
    · exact .inl (.inl (.inr e))
  refine ⟨h.o.trans' ho ?_, hp, ⟨fun i u e => cell_same (h.rb.1 i u e) (hbl _ (by omega) (by omega)), fun i hi => (World.frozen?_of_block (w := W) (a := ⟨w.heap.size + 1, i, none⟩) (hbl (w.heap.size + 1) (by omega) (by omega))).trans (h.rb.2 i hi)⟩, ?_, ?_, ?_, fun g e => ?_, h.be.only ho (fun i hi u => ⟨hU i u, ?_, ?_⟩) (fun i hi e => .inl (hT i hi e)), h.vv, h.wt.same fun h0 bb o e => hbl bb (h.wg h0 bb o e).2.1 (by have := h.wg h0 bb o e; omega), h.wg, ⟨a2.1, by omega⟩, h.es, h.sp, h.sv, fun i e => by have := h.sl i e; omega, a1⟩
  · rintro i hi (e | e | e)
    · omega
    · have := (hrl i e).1; omega
    · have := (hcl i e).1; omega
  · rw [e2]
    refine ⟨xs ++ [.int .i64 y.k, .int .i64 y.n, .int .i64 y.r, .slice B3 y.q.len c3], ?_, ?_⟩
    · rw [snoc_len, hlen]
      exact h2
    · exact RowZ.snoc c3 (key _ _ hkz) (hxr.map fun D q hk => key D q (key2 D q hk))
  · rw [e3]
    exact h3
  · intro i e1' e2'
    have q1 : some g2 = some i := e1'
    have q2 : some g3 = some i := e2'
    injection q1 with q1
    injection q2 with q2
    omega
  · have a := h.apv g e
    have b := hgl g e
    exact ⟨a.1, a.2.1, fun e2 => a.2.2.1 (new3 g b e2), fun e2 => a.2.2.2 (new2 g b e2)⟩
  · rcases u with e | e | e
    · omega
    · have := (hrl i e).1; omega
    · have := (hcl i e).1; omega
  · intro e
    have a := h.apv i e
    rcases u with u | u | u
    · exact a.1 u
    · exact a.2.2.2 u
    · exact a.2.2.1 u
end
end Go.Proofs.YtmgfaeineklccaaGreat
/- Contract: search.clone. -/
set_option linter.unusedSimpArgs false
set_option linter.unusedVariables false
namespace Go.Proofs.YtmgfaeineklccaaGreat
open Go.RowKit Go.Lib

def CloneC (kind n r : Int) (q : Fo) : Prop := q.count ≤ 549755813888 → ∀ (w : World) (A : Option Addr) (c : Nat), Kids w A 0 q →
  Calls Tryz.prog 138 #[plV kind n r A q.len c] w fun z w' => ∃ (B : Option Addr) (c' : Nat), z = .returned (plV kind n r B q.len c') ∧ KY w.heap.size none w' B q ∧ Below w.heap.size w w'

set_option maxRecDepth 100000 in
set_option maxHeartbeats 4000000 in
theorem clone_all : ∀ fo : Fo, fo.all CloneC := Fo.all_of fun kind n r q ih => by
  intro hc w A c hk
  have HK := Lib.hid hk
  have HIH := Lib.hid ih
  have HC := Lib.hid hc
  have hql : q.len ≤ 549755813888 := by have := len_count' q; omega
  clear hk ih hc
  go_enter Tryz.func138, Tryz.ntmps138
  go_wp2
  obtain ⟨W1, hW1⟩ : ∃ W1, W1 = (w.alloc (.cells #[.int .i64 kind, .int .i64 n, .int .i64 r, .slice none 0 0] 27)).alloc (.cells #[.int .i64 0, .int .i64 0, .int .i64 0, .slice none 0 0] 27) := ⟨_, rfl⟩
  have hb1 : Below w.heap.size w W1 := by rw [hW1]; exact ((Below.refl _ w).alloc (Nat.le_refl _) _).alloc (by simp) _
  have hs1 : W1.heap.size = w.heap.size + 2 := by rw [hW1]; simp
  have hq1 : PlBox W1 w.heap.size kind n r none 0 0 ∧ PlFree W1 w.heap.size := by
    rw [hW1]
    have hb : Below (w.alloc (.cells #[.int .i64 kind, .int .i64 n, .int .i64 r, .slice none 0 0] 27)).heap.size (w.alloc (.cells #[.int .i64 kind, .int .i64 n, .int .i64 r, .slice none 0 0] 27)) ((w.alloc (.cells #[.int .i64 kind, .int .i64 n, .int .i64 r, .slice none 0 0] 27)).alloc (.cells #[.int .i64 0, .int .i64 0, .int .i64 0, .slice none 0 0] 27)) := (Below.refl _ _).alloc (Nat.le_refl _) _
    exact ⟨(PlBox.new w kind n r none 0 0 27).below hb, (PlFree.new w (.int .i64 kind) (.int .i64 n) (.int .i64 r) (.slice none 0 0) 27).keep hb (by simp)⟩
  have hr1 : PlBox W1 (w.heap.size + 1) 0 0 0 none 0 0 ∧ PlFree W1 (w.heap.size + 1) := by
    have h1 := PlBox.new (w.alloc (.cells #[.int .i64 kind, .int .i64 n, .int .i64 r, .slice none 0 0] 27)) 0 0 0 none 0 0 27
    have h2 := PlFree.new (w.alloc (.cells #[.int .i64 kind, .int .i64 n, .int .i64 r, .slice none 0 0] 27)) (.int .i64 0) (.int .i64 0) (.int .i64 0) (.slice none 0 0) 27
    rw [← hW1] at h1 h2
    simp only [World.size_alloc] at h1 h2
    exact ⟨h1, h2⟩
  rw [← hW1]
  clear hW1
  have HB1 := Lib.hid hb1
  have HS1 := Lib.hid hs1
  have HQ1 := Lib.hid hq1
  have HR1 := Lib.hid hr1
  clear hb1 hs1 hq1 hr1
  go_loopw [11] (fun vi wr => ∃ (i : Nat) (B : Option Addr) (cb : Nat), i ≤ q.len ∧ vi = .int .i64 i ∧ Hid (RowP (w.heap.size + 2) 27 wr (.slice B i cb) (q.take i)) ∧ Hid (PlBox wr (w.heap.size) kind n r B i cb ∧ PlFree wr (w.heap.size)) ∧ Hid (PlBox wr (w.heap.size + 1) 0 0 0 none 0 0 ∧ PlFree wr (w.heap.size + 1)) ∧ Hid (w.heap.size + 2 ≤ wr.heap.size ∧ Below w.heap.size w wr)) (fun vi _ => q.len - (intOf vi).toNat)
  case atStart => exact ⟨0, none, 0, Nat.zero_le _, rfl, Lib.hid (RowP.nil _ _ _), HQ1, HR1, Lib.hid ⟨by rw [HS1.out]; exact Nat.le_refl _, HB1.out⟩⟩
  case round =>
    obtain ⟨i, B, cb, hi, rfl, hrow, hq, hr, hbw⟩ := hrel
    clear HQ1 HR1 HB1 HS1
    by_cases hlt : i < q.len
    · have hlti : (i : Int) < (q.len : Int) := by omega
      obtain ⟨k', n', r', q', rest, hd⟩ := drop_lt i q hlt
      obtain ⟨bA, oA, B', c', rfl, k0, k1, k2, k3, k5⟩ := HK.out.at' hd
      have j0 := keep_cell hbw.out.2 k0
      have j1 := keep_cell hbw.out.2 k1
      have j2 := keep_cell hbw.out.2 k2
      have j3 := keep_cell hbw.out.2 k3
      have HTS := Lib.hid (take_succ i q hd)
      have HTL := Lib.hid (take_len i q (by omega))
      have hq'c : q'.count ≤ 549755813888 := by
        have h1 := count_kid hd
        have h2 := upto_all q (i + 1)
        have := HC.out
        omega
      have HE := Lib.hid (fun w' h => Fo.all_at HIH.out hd hq'c w' B' c' h)
      have HKB := Lib.hid (k5.below hbw.out.2)
      have bs := bs_plan
      clear k0 k1 k2 k3 k5 hd hq'c
      go_upto_region 6 with (fail)
      have hbk := PlBox.new wr k' n' r' B' q'.len c' 27
      have hbB : Below wr.heap.size wr (wr.alloc (.cells #[.int .i64 k', .int .i64 n', .int .i64 r', .slice B' q'.len c'] 27)) := (Below.refl _ wr).alloc (Nat.le_refl _) _
      obtain ⟨Wk, hWk⟩ : ∃ Wk, Wk = wr.alloc (.cells #[.int .i64 k', .int .i64 n', .int .i64 r', .slice B' q'.len c'] 27) := ⟨_, rfl⟩
      rw [← hWk] at hbk hbB ⊢
      have HBK : Hid (PlBox Wk wr.heap.size k' n' r' B' q'.len c' ∧ PlBox Wk (w.heap.size) kind n r B i cb) := Lib.hid ⟨hbk, hq.out.1.below hbB⟩
      have HBB := Lib.hid hbB
      obtain ⟨bK, hbK⟩ : ∃ bK, wr.heap.size = bK := ⟨_, rfl⟩
      rw [hbK] at HBK ⊢
      clear hWk hbk hbB j0 j1 j2 j3 hbK
      refine wp_region_S (fun w' => w'.cell? ⟨bK, 0, none⟩ = some (.int .i64 k') ∧ w'.cell? ⟨bK, 1, none⟩ = some (.int .i64 n') ∧ w'.cell? ⟨bK, 2, none⟩ = some (.int .i64 r') ∧ w'.cell? ⟨bK, 3, none⟩ = some (.slice B' q'.len c') ∧ w'.cell? ⟨w.heap.size, 3, none⟩ = some (.slice B i cb)) 5 (by kernel_rfl) ?_
      have hS0 := (⟨HBK.out.1.1, HBK.out.1.2.1, HBK.out.1.2.2.1, HBK.out.1.2.2.2, HBK.out.2.2.2.2⟩ : (fun w' => w'.cell? ⟨bK, 0, none⟩ = some (.int .i64 k') ∧ w'.cell? ⟨bK, 1, none⟩ = some (.int .i64 n') ∧ w'.cell? ⟨bK, 2, none⟩ = some (.int .i64 r') ∧ w'.cell? ⟨bK, 3, none⟩ = some (.slice B' q'.len c') ∧ w'.cell? ⟨w.heap.size, 3, none⟩ = some (.slice B i cb)) Wk.drew)
      refine wpAnyS_take (i := 0) (v := ?_) (by kernel_rfl) rfl (fun _ _ _ h => h) rfl hS0 (fun w hSw => by (try dsimp only at hSw); go_simp; try with_reducible rfl) ?_
      try simp only [List.getElem_toArray, List.getElem_cons_zero, List.getElem_cons_succ, Act.put, List.setIfInBounds_toArray, List.set_cons_zero, List.set_cons_succ]
      refine wpAnyS_take (i := 1) (v := ?_) (by kernel_rfl) rfl (fun _ _ _ h => h) rfl hS0 (fun w hSw => by (try dsimp only at hSw); go_simp; try with_reducible rfl) ?_
      try simp only [List.getElem_toArray, List.getElem_cons_zero, List.getElem_cons_succ, Act.put, List.setIfInBounds_toArray, List.set_cons_zero, List.set_cons_succ]
      refine wpAnyS_take (i := 2) (v := ?_) (by kernel_rfl) rfl (fun _ _ _ h => h) rfl hS0 (fun w hSw => by (try dsimp only at hSw); go_simp; try with_reducible rfl) ?_
      try simp only [List.getElem_toArray, List.getElem_cons_zero, List.getElem_cons_succ, Act.put, List.setIfInBounds_toArray, List.set_cons_zero, List.set_cons_succ]
      refine wpAnyS_one (i := 3) (by kernel_rfl) rfl rfl (fun K hK => ?_)
      go_simp
      refine (HE.out _ (HKB.out.below (HBB.out.trans (Below.refl _ Wk).drew))).mono ?_
      rintro z w3 ⟨Bn, cn, rfl, hky, hb3⟩
      have HKY := Lib.hid hky
      have HB3 : Hid (Below Wk.heap.size Wk w3) := Lib.hid ((Below.refl _ Wk).drew.trans hb3)
      have hS1 : (fun w' => w'.cell? ⟨bK, 0, none⟩ = some (.int .i64 k') ∧ w'.cell? ⟨bK, 1, none⟩ = some (.int .i64 n') ∧ w'.cell? ⟨bK, 2, none⟩ = some (.int .i64 r') ∧ w'.cell? ⟨bK, 3, none⟩ = some (.slice B' q'.len c') ∧ w'.cell? ⟨w.heap.size, 3, none⟩ = some (.slice B i cb)) w3 := ⟨keep_cell HB3.out hS0.1, keep_cell HB3.out hS0.2.1, keep_cell HB3.out hS0.2.2.1, keep_cell HB3.out hS0.2.2.2.1, keep_cell HB3.out hS0.2.2.2.2⟩
      clear hky hb3
      refine hK.out _ _ (fun _ => hS1) ?_
      clear hK K
      try simp only [List.getElem_toArray, List.getElem_cons_zero, List.getElem_cons_succ, Act.put, List.setIfInBounds_toArray, List.set_cons_zero, List.set_cons_succ]
      refine wpAnyS_one (i := 4) (by kernel_rfl) rfl rfl (fun K hK => ?_)
      go_simp
      obtain ⟨w4, hw4⟩ : ∃ w4, w4 = w3.alloc (.cells #[.int .i64 k', .int .i64 n', .int .i64 r', .slice Bn q'.len cn] 27) := ⟨_, rfl⟩
      have hbn : Below w3.heap.size w3 w4 := by rw [hw4]; exact (Below.refl _ w3).alloc (Nat.le_refl _) _
      have HNEW : Hid (∀ j u, [Value.int .i64 k', .int .i64 n', .int .i64 r', .slice Bn q'.len cn][j]? = some u → w4.cell? ⟨w3.heap.size, j, none⟩ = some u) := Lib.hid (by rw [hw4]; exact cells_four _ _ _ _ _ _ _ rfl)
      rw [← hw4]
      have HKY4 := Lib.hid (HKY.out.below hbn)
      have HB4 : Hid (Below Wk.heap.size Wk w4) := Lib.hid (HB3.out.trans (hbn.mono HB3.out.size))
      have hS2 : (fun w' => w'.cell? ⟨bK, 0, none⟩ = some (.int .i64 k') ∧ w'.cell? ⟨bK, 1, none⟩ = some (.int .i64 n') ∧ w'.cell? ⟨bK, 2, none⟩ = some (.int .i64 r') ∧ w'.cell? ⟨bK, 3, none⟩ = some (.slice B' q'.len c') ∧ w'.cell? ⟨w.heap.size, 3, none⟩ = some (.slice B i cb)) w4 := ⟨keep_cell hbn hS1.1, keep_cell hbn hS1.2.1, keep_cell hbn hS1.2.2.1, keep_cell hbn hS1.2.2.2.1, keep_cell hbn hS1.2.2.2.2⟩
      have HBN := Lib.hid hbn
      clear hbn hw4
      refine hK.out _ _ (fun _ => hS2) ?_
      clear hK K
      try simp only [List.getElem_toArray, List.getElem_cons_zero, List.getElem_cons_succ, Act.put, List.setIfInBounds_toArray, List.set_cons_zero, List.set_cons_succ]
      refine wpAnyS_end 3 5 (by kernel_rfl) (by decide) rfl ?_
      simp only [List.toList_toArray, List.drop_succ_cons, List.drop_zero]
      have HB5 : Hid (Below wr.heap.size wr w4) := Lib.hid (HBB.out.trans (HB4.out.mono HBB.out.size))
      obtain ⟨xs, hO, hRK⟩ := hrow.out.below HB5.out
      have HRK := Lib.hid hRK
      have HRO := Lib.hid hO
      have HT4 : Hid (∀ k, k < w.heap.size + 2 → (Value.slice B i cb).ownBlock ≠ some k) := Lib.hid (fun k hk e => by have := (hrow.out.lt k e).1; omega)
      have HQ4 : Hid (PlBox w4 (w.heap.size) kind n r B i cb ∧ PlFree w4 (w.heap.size)) := Lib.hid ⟨hq.out.1.below HB5.out, hq.out.2.keep HB5.out (by have := hbw.out.1; omega)⟩
      have HR4 : Hid (PlBox w4 (w.heap.size + 1) 0 0 0 none 0 0 ∧ PlFree w4 (w.heap.size + 1)) := Lib.hid ⟨hr.out.1.below HB5.out, hr.out.2.keep HB5.out (by have := hbw.out.1; omega)⟩
      have HB6 : Hid (w.heap.size + 2 ≤ w4.heap.size ∧ Below w.heap.size w w4) := Lib.hid ⟨by have := hbw.out.1; have := HB5.out.size; omega, hbw.out.2.trans (HB5.out.mono (by have := hbw.out.1; omega))⟩
      have HKQ : Hid (KY (w.heap.size + 2) (Value.slice B i cb).ownBlock w4 Bn q') := Lib.hid ((HKY4.out.low (fun k e => by have := (hrow.out.lt k e).2; have := HBB.out.size; show k < Wk.heap.size; omega)).mono (by have := hbw.out.1; have := HBB.out.size; show w.heap.size + 2 ≤ Wk.heap.size; omega))
      rw [HTL.out] at HRO
      have hi40 : i + 1 ≤ 1099511627776 := by omega
      have hs4 := HB6.out.1
      clear hO hRK hrow hS2 hS1 hS0 HBK HKY4 HKY HB3 HB4 HBB hq hr hbw HB5 HKB HE
      go_wp2_with (at_builtin; refine wpList_appL rfl _ _ 25 27 rfl 4 48 (.agg #[.int .i64 0, .int .i64 0, .int .i64 0, .slice none 0 0]) Tryz.underlying25 info_plan rfl (by omega) (by omega) (w.heap.size + 2) (.slice B i cb) i xs rfl HRO.out _ _ [.int .i64 k', .int .i64 n', .int .i64 r', .slice Bn q'.len cn] rfl rfl HNEW.out (one_four _ _ _ _ _ _) hi40 hs4 ?_; intro g2 cap2 w5 hO2 hG2 hL2; obtain ⟨a0, a1, a2, a3⟩ := HQ4.out.1.grown hG2.out (HT4.out _ (by omega)); have hf5 := (HQ4.out.2.grown hG2.out (by omega) (HT4.out _ (by omega))) 3 (by omega))
      have hRN := RowP.snoc HRK.out HKQ.out (by rw [HTL.out]; exact hO2.out) hG2.out hL2.out
      rw [HTL.out, ← HTS.out] at hRN
      have HRN := Lib.hid (hRN.set (b := w.heap.size) (o := 3) (.slice (some ⟨g2, 0, none⟩) (i + 1) cap2) (by omega))
      have HQN : Hid (PlBox (w5.setCell ⟨w.heap.size, 3, none⟩ (.slice (some ⟨g2, 0, none⟩) (i + 1) cap2)) (w.heap.size) kind n r (some ⟨g2, 0, none⟩) (i + 1) cap2 ∧ PlFree (w5.setCell ⟨w.heap.size, 3, none⟩ (.slice (some ⟨g2, 0, none⟩) (i + 1) cap2)) (w.heap.size)) := Lib.hid ⟨PlBox.kid ⟨a0, a1, a2, a3⟩ _ _ _, (HQ4.out.2.grown hG2.out (by omega) (HT4.out _ (by omega))).set _ _⟩
      have HRR : Hid (PlBox (w5.setCell ⟨w.heap.size, 3, none⟩ (.slice (some ⟨g2, 0, none⟩) (i + 1) cap2)) (w.heap.size + 1) 0 0 0 none 0 0 ∧ PlFree (w5.setCell ⟨w.heap.size, 3, none⟩ (.slice (some ⟨g2, 0, none⟩) (i + 1) cap2)) (w.heap.size + 1)) := Lib.hid ⟨(HR4.out.1.grown hG2.out (HT4.out _ (by omega))).other _ (by omega), (HR4.out.2.grown hG2.out (by omega) (HT4.out _ (by omega))).set _ _⟩
      have HBN2 : Hid (w.heap.size + 2 ≤ (w5.setCell ⟨w.heap.size, 3, none⟩ (.slice (some ⟨g2, 0, none⟩) (i + 1) cap2)).heap.size ∧ Below w.heap.size w (w5.setCell ⟨w.heap.size, 3, none⟩ (.slice (some ⟨g2, 0, none⟩) (i + 1) cap2))) := Lib.hid ⟨by have := hG2.out.size; simp [World.setCell]; omega, (HB6.out.2.grown hG2.out (by omega) (fun k e => by
        rcases Nat.lt_or_ge k (w.heap.size + 2) with h | h
        · exact absurd e (HT4.out k h)
        · omega)).setCell (p := ⟨w.heap.size, 3, none⟩) (by show w.heap.size ≤ w.heap.size; omega) _⟩
      clear hRN hO2 hG2 hL2 a0 a1 a2 a3 hf5 HRK HRO HQ4 HR4 HKQ HT4 HB6
      exact ⟨⟨i + 1, _, _, by omega, by first | rfl | go_num, HRN, HQN, HRR, HBN2⟩, by simp [intOf]; omega⟩
    · obtain rfl : i = q.len := by omega
      have HRW := Lib.hid hrow.out
      rw [take_all _ _ (Nat.le_refl _)] at HRW
      obtain ⟨A2, c2, hA2, hKY⟩ := HRW.out.form
      have hA3 : B = A2 ∧ cb = c2 := by
        injection hA2 with h1 h2 h3
        exact ⟨h1, h3⟩
      obtain ⟨rfl, rfl⟩ := hA3
      obtain ⟨q0, q1, q2, q3⟩ := hq.out.1
      obtain ⟨r0, r1, r2, r3⟩ := hr.out.1
      have hf0 := hr.out.2 0 (by omega)
      have hf1 := hr.out.2 1 (by omega)
      have hf2 := hr.out.2 2 (by omega)
      have hf3 := hr.out.2 3 (by omega)
      have HKY := Lib.hid (hKY.mono (show w.heap.size ≤ w.heap.size + 2 by omega))
      have HKZ := Lib.hid hKY
      clear hKY hA2 HRW hrow
      go_wp2
      obtain ⟨s0, s1, s2, s3⟩ := hr.out.1.put kind n r B q.len cb
      refine bodyPost_ret (v := plV kind n r B q.len cb) (by simp [results, Tryz.results138, go_sem, s0, s1, s2, s3]) rfl ⟨B, cb, rfl, ?_, below_four hbw.out.2 (by omega) _ _ _ _⟩
      exact (HKZ.out.set4 _ _ _ _ (show w.heap.size + 1 < w.heap.size + 2 by omega)).mono (by omega)

end Go.Proofs.YtmgfaeineklccaaGreat
