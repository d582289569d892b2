/- The walk of RunTwice. -/
import Derived.Test.YteaimnemobnknaaE4
set_option linter.unusedSimpArgs false
set_option linter.unusedVariables false
namespace Go.Proofs.Yteaimnemobnknaa
open Go.RowKit Go.Lib

theorem rd_twice {Q V O : Nat} {kind : Int} {N : Nat} {r : Int} {q : Fo} (P : PlanF Q V O kind N r q) {x : Nat → Int} (hx : InQ Q x) (j : Nat) (hj : j < N) : ((rdF Q V O N 1 (fun k => ((rdF Q V O N 1 x k : Nat) : Int)) j : Nat) : Int) = x ((N - j) % N) * ((N % Q : Nat) : Int) % Q := by
  have hq0 : NeZero Q := ⟨by have := P.fo.pr.1; omega⟩
  have hlt := rdF_lt (v := V) (o := O) (n := N) P.fo.pr.1 1 (fun k => ((rdF Q V O N 1 x k : Nat) : Int)) j
  have hq1 := P.fo.pr.1
  refine hq_inj (by omega) (by omega) (Int.emod_nonneg _ (by omega)) (Int.emod_lt_of_pos _ (by omega)) ?_
  rw [rdF_dft P.fo.pr P.fo.od P.fo.nq P.n1 P.dvd (.inl rfl)]
  have e2 : (fun k : Nat => hq Q ((rdF Q V O N 1 x k : Nat) : Int)) = fun k => dft (rtF Q V O) N 1 (fun i => hq Q (x i)) k := funext fun k => rdF_dft P.fo.pr P.fo.od P.fo.nq P.n1 P.dvd (.inl rfl) x k
  rw [e2, dft_twice P.fo.pr P.fo.od P.n1 P.dvd _ j hj, hq_mod, hq_mul, ← hq_many, Int.natCast_emod, hq_mod]
  grind

set_option maxRecDepth 100000 in
set_option maxHeartbeats 8000000 in
theorem Twice_any (a0 : Int) (b0 : -9223372036854775808 ≤ a0) (b1 : a0 ≤ 9223372036854775807) (Ac : Option Addr) (nc cc : Nat) (f : Nat → Int) (Al : Option Addr) (nl cl : Nat) (l : Nat → Int) (w : World) (hI : IntsAt w Ac nc f) (hnc : nc ≤ 1125899906842624) (hL : IntsAt w Al nl l) (hR : Rng l) (hnl : nl ≤ 1125899906842624) :
    Calls Try.prog 6 #[.int .i64 a0, .slice Ac nc cc, .slice Al nl cl] w (Ret w (.bool true)) := by
  have HI := Lib.hid hI
  have HL := Lib.hid hL
  have HR := Lib.hid hR
  clear hI hL hR
  go_enter Try.func6, Try.ntmps6
  go_upto_region 1 with (fail)
  go_cut [0] from 17 to 20 (fun s0 wx => ∃ m : Nat, 1 ≤ m ∧ m ≤ 120 ∧ s0 = .int .i64 m ∧ w = wx)
  case first =>
    have h0 := Int.emod_nonneg a0 (show (120 : Int) ≠ 0 by omega)
    have h1 := Int.emod_lt_of_pos a0 (show (0 : Int) < 120 by omega)
    by_cases hneg : a0 ≤ 0
    · go_wp2_with fail
      go_meet
      exact ⟨1, by omega, by omega, rfl, rfl⟩
    · have ht : a0.tmod 120 = a0 % 120 := Int.tmod_eq_emod_of_nonneg (by omega)
      obtain ⟨x, hx⟩ : ∃ x, a0 % 120 = x := ⟨_, rfl⟩
      rw [hx] at h0 h1 ht
      clear hx
      go_wp2_with fail
      go_meet
      exact ⟨(1 + x).toNat, by omega, by omega, by rw [Int.toNat_of_nonneg (by omega)], rfl⟩
  case rest =>
  obtain ⟨m, hm1, hm2, rfl, rfl⟩ := hcut
  apply_assumption
  have HPO := Lib.hid (planOf18 m hm1 (by omega) Ac nc cc f w HI.out hnc)
  go_wp2_with fail
  refine HPO.out.mono ?_
  rintro z w1 ⟨kind, r, q, Bk, ck, rfl, hq, hkd, hb1⟩
  have HQ := Lib.hid (show q.count ≤ 549755813888 by omega)
  have HB1 := Lib.hid hb1
  have HK1 := Lib.hid hkd
  clear HPO hb1 hkd hq
  go_upto_region 3 with (fail)
  obtain ⟨w2, hw2⟩ : ∃ w2, w2 = w1.alloc (.cells #[.int .i64 kind, .int .i64 m, .int .i64 r, .slice Bk q.len ck] 26) := ⟨_, rfl⟩
  have hb2 : Below w1.heap.size w1 w2 := by rw [hw2]; exact (Below.refl _ w1).alloc (Nat.le_refl _) _
  have hp2 := PlBox.new w1 kind m r Bk q.len ck 26
  rw [← hw2] at hp2 ⊢
  obtain ⟨bP, hbP⟩ : ∃ bP, w1.heap.size = bP := ⟨_, rfl⟩
  rw [hbP] at hp2 ⊢
  have HP2 := Lib.hid hp2
  have HK2 := Lib.hid (HK1.out.below hb2)
  have HB2 : Hid (Below w.heap.size w w2) := Lib.hid (HB1.out.trans (hb2.mono HB1.out.size))
  have HWK := Lib.hid (fun w => wakes18 w)
  clear hw2 hb2 hp2 hbP HB1 HK1
  by_cases he : checkE kind m r q m = 0
  · have hdt : decide (checkE kind m r q m = 0) = true := decide_eq_true he
    rw [hdt]
    have HE := Lib.hid he
    clear hdt he
    go_wp2_with fail
    refine (HWK.out _).mono ?_
    rintro z w3 ⟨rfl, hb3⟩
    have HP3 := Lib.hid (HP2.out.below hb3)
    have HK3 := Lib.hid (HK2.out.below hb3)
    have HB3 : Hid (Below w.heap.size w w3) := Lib.hid (HB2.out.trans (hb3.mono HB2.out.size))
    have HPR := Lib.hid ((planRef_all18 (.cons kind m r q .nil)).1 HQ.out w3 Bk ck HK3.out)
    obtain ⟨p0, p1, p2, p3⟩ := HP3.out
    clear hb3 HP2 HK2 HB2 HWK
    go_wp2_with fail
    refine HPR.out.mono ?_
    rintro z w4 ⟨B4, c4, rfl, hky, hb4⟩
    have HF := Lib.hid (fieldOf_any kind m r q HQ.out w4 B4 c4 hky.kids)
    have HP4 := Lib.hid (HP3.out.below hb4)
    have HK4 := Lib.hid (HK3.out.below hb4)
    have HB4 : Hid (Below w.heap.size w w4) := Lib.hid (HB3.out.trans (hb4.mono HB3.out.size))
    have HPF := Lib.hid (fun hf => plan_field (by omega) HE.out hf)
    obtain ⟨R, hR⟩ : ∃ R, fieldF kind m r q = R := ⟨_, rfl⟩
    rw [hR] at HF HPF
    obtain ⟨⟨Q, V, O⟩, ok⟩ := R
    dsimp only at HF HPF
    clear hky hb4 hR HP3 HK3 HB3 HPR p0 p1 p2 p3
    go_wp2_with fail
    refine HF.out.mono ?_
    rintro z w5 ⟨rfl, hb5⟩
    have HP5 := Lib.hid (HP4.out.below hb5)
    have HK5 := Lib.hid (HK4.out.below hb5)
    have HB5 : Hid (Below w.heap.size w w5) := Lib.hid (HB4.out.trans (hb5.mono HB4.out.size))
    clear hb5 HP4 HK4 HB4 HF
    rcases ok with _ | _
    · go_wp2
      go_ret
      exact ⟨rfl, HB5.out.alloc HB5.out.size _⟩
    · have hpf := HPF.out rfl
      have HPL := Lib.hid hpf
      have hfq := hpf.fo.q
      have hfv := hpf.fo.v
      have hfn := hpf.fo.nq
      have hq2 := hpf.fo.pr.1
      clear HPF hpf
      go_upto_region 9 with (fail)
      obtain ⟨w6, hw6⟩ : ∃ w6, w6 = (w5.alloc (.cells #[.int .i64 Q, .int .i64 V, .int .i64 O] 33)).alloc (.cells #[.int .i64 Q, .int .i64 V, .int .i64 O] 35) := ⟨_, rfl⟩
      have hb6 : Below w5.heap.size w5 w6 := by rw [hw6]; exact ((Below.refl _ w5).alloc (Nat.le_refl _) _).alloc (by simp) _
      have hf6 : Tri w6 w5.heap.size Q V O := by
        rw [hw6]
        exact (Tri.new w5 Q V O _).below ((Below.refl _ _).alloc (Nat.le_refl _) _)
      have hr6 : Tri w6 (w5.heap.size + 1) Q V O := by
        rw [hw6]
        have := Tri.new (w5.alloc (.cells #[.int .i64 Q, .int .i64 V, .int .i64 O] 33)) Q V O 35
        simp only [World.size_alloc] at this
        exact this
      rw [← hw6]
      obtain ⟨bF, hbF⟩ : ∃ bF, w5.heap.size = bF := ⟨_, rfl⟩
      rw [hbF] at hf6 hr6 ⊢
      obtain ⟨bR, hbR⟩ : ∃ bR, bF + 1 = bR := ⟨_, rfl⟩
      rw [hbR] at hr6 ⊢
      have HP6 := Lib.hid (HP5.out.below hb6)
      have HK6 := Lib.hid (HK5.out.below hb6)
      have HB6 : Hid (Below w.heap.size w w6) := Lib.hid (HB5.out.trans (hb6.mono HB5.out.size))
      have HEL := Lib.hid (elements18 Q V O (by omega) (by omega) Al nl cl m l w6 (HL.out.keep HB6.out) HR.out hnl (by omega))
      obtain ⟨t0, t1, t2⟩ := hr6
      have HF6 := Lib.hid hf6
      have HR6 : Hid (Tri w6 bR Q V O) := Lib.hid ⟨t0, t1, t2⟩
      clear hw6 hb6 hf6 HP5 HK5 HB5 hbF hbR
      go_wp2_with fail
      refine HEL.out.mono ?_
      rintro z w7 ⟨rfl, hrow, hb7⟩
      have HX7 := Lib.hid hrow.ints
      obtain ⟨bX, hbX⟩ : ∃ bX, w6.heap.size + 1 = bX := ⟨_, rfl⟩
      rw [hbX] at HX7 ⊢
      have HP7 := Lib.hid (HP6.out.below hb7)
      have HK7 := Lib.hid (HK6.out.below hb7)
      have HF7 := Lib.hid (HF6.out.below hb7)
      have HR7 := Lib.hid (HR6.out.below hb7)
      have HB7 : Hid (Below w.heap.size w w7) := Lib.hid (HB6.out.trans (hb7.mono HB6.out.size))
      have HIN := Lib.hid (elF_in Q nl l (by omega))
      have bsi := bs_int2
      clear hrow hb7 hbX HP6 HK6 HF6 HR6 HB6 HEL t0 t1 t2
      have HRUN := Lib.hid (Run_f HPL.out 1 (.inl rfl) HQ.out w7 Bk ck (some ⟨bX, 0, none⟩) m (elF Q nl l) HK7.out HX7.out HIN.out)
      obtain ⟨p0, p1, p2, p3⟩ := HP7.out
      obtain ⟨t0, t1, t2⟩ := HR7.out
      go_wp2_with fail
      refine HRUN.out.mono ?_
      rintro z w8 ⟨gy, rfl, hy, hb8⟩
      have HY8 := Lib.hid hy
      have HX8 := Lib.hid (HX7.out.keep hb8)
      have HP8 := Lib.hid (HP7.out.below hb8)
      have HK8 := Lib.hid (HK7.out.below hb8)
      have HF8 := Lib.hid (HF7.out.below hb8)
      have HR8 := Lib.hid (HR7.out.below hb8)
      have HB8 : Hid (Below w.heap.size w w8) := Lib.hid (HB7.out.trans (hb8.mono HB7.out.size))
      have HRUN2 := Lib.hid (Run_f HPL.out 1 (.inl rfl) HQ.out w8 Bk ck (some ⟨gy, 0, none⟩) m _ HK8.out HY8.out (rdF_in HPL.out 1 (elF Q nl l)))
      clear hy hb8 p0 p1 p2 p3 t0 t1 t2 HRUN HX7 HP7 HK7 HF7 HR7 HB7
      obtain ⟨p0, p1, p2, p3⟩ := HP8.out
      obtain ⟨t0, t1, t2⟩ := HR8.out
      go_wp2_with fail
      refine HRUN2.out.mono ?_
      rintro z w9 ⟨gz, rfl, hz, hb9⟩
      have HZ9 := Lib.hid hz
      have HX9 := Lib.hid (HX8.out.keep hb9)
      have HF9 := Lib.hid (HF8.out.below hb9)
      have HR9 := Lib.hid (HR8.out.below hb9)
      have HB9 : Hid (Below w.heap.size w w9) := Lib.hid (HB8.out.trans (hb9.mono HB8.out.size))
      clear hz hb9 p0 p1 p2 p3 t0 t1 t2 HRUN2 HX8 HP8 HK8 HF8 HR8 HB8 HY8
      have hmQ : m < Q := Nat.lt_of_le_of_lt (Nat.le_of_dvd HPL.out.fo.n1 HPL.out.dvd) HPL.out.fo.nq
      go_wp2_with fail
      go_loopw [16, 78] (fun v16 v78 wr => ∃ k : Nat, k ≤ m ∧ v78 = .int .i64 k ∧ Hid (Below w9.heap.size w9 wr)) (fun _ v78 _ => m - (intOf v78).toNat)
      case atStart => exact ⟨0, by omega, rfl, Lib.hid (Below.refl _ _)⟩
      case round =>
        obtain ⟨k, hk, rfl, hbw⟩ := hrel
        by_cases hlt : k < m
        · have hki : (k : Int) < m := by omega
          have hil : (m - k) % m < m := Nat.mod_lt _ (by omega)
          obtain ⟨b1', o1', e1', cz0⟩ := HZ9.out.keep hbw.out k hlt
          injection e1' with e1'
          injection e1' with e2' e3'
          subst e2' e3'
          obtain ⟨b2', o2', e1', cx0⟩ := HX9.out.keep hbw.out ((m - k) % m) hil
          injection e1' with e1'
          injection e1' with e2' e3'
          subst e2' e3'
          have HFB := Lib.hid (HF9.out.below hbw.out)
          have HRB := Lib.hid (HR9.out.below hbw.out)
          have hTW := rd_twice HPL.out HIN.out k hlt
          have hxi := HIN.out ((m - k) % m)
          have hsb : (m : Int) - (k : Int) = ((m - k : Nat) : Int) := by omega
          have htm : ((m - k : Nat) : Int).tmod m = (((m - k) % m : Nat) : Int) := by rw [Int.tmod_eq_emod_of_nonneg (by omega)]; omega
          have hm0 : ¬ (m : Int) = 0 := by omega
          have hm00 : ¬ m = 0 := by omega
          have hq00 : ¬ Q = 0 := by omega
          have hws : IntKind.i64.wrap ((m - k : Nat) : Int) = ((m - k : Nat) : Int) := wrapI_nat _ (by omega)
          obtain ⟨i, hi⟩ : ∃ i, (m - k) % m = i := ⟨_, rfl⟩
          rw [hi] at hil cx0 hTW hxi htm
          obtain ⟨X, hX⟩ : ∃ X, elF Q nl l i = X := ⟨_, rfl⟩
          have cx : wr.cell? ⟨bX, i, none⟩ = some (.int .i64 X) := by rw [← hX]; rw [Nat.zero_add] at cx0; exact cx0
          rw [hX] at hTW hxi
          obtain ⟨Z, hZ⟩ : ∃ Z : Nat, rdF Q V O m 1 (fun k => ((rdF Q V O m 1 (elF Q nl l) k : Nat) : Int)) k = Z := ⟨_, rfl⟩
          have cz : wr.cell? ⟨gz, k, none⟩ = some (.int .i64 Z) := by rw [← hZ]; rw [Nat.zero_add] at cz0; exact cz0
          rw [hZ] at hTW
          have hmt : (m : Int).tmod Q = ((m % Q : Nat) : Int) := by rw [Int.tmod_eq_emod_of_nonneg (by omega)]; omega
          have hq0 : ¬ (Q : Int) = 0 := by omega
          have hml : m % Q < Q := Nat.mod_lt _ (by omega)
          obtain ⟨u, hu⟩ : ∃ u, m % Q = u := ⟨_, rfl⟩
          rw [hu] at hTW hmt hml
          have HMU := Lib.hid (fun w => lmul_any Q V O X u (by omega) (by omega) hxi.1 hxi.2 (by omega) (by omega) w)
          rw [← hTW] at HMU
          have hwm : IntKind.i64.wrap ((i : Int)) = (i : Int) := wrapI_nat i (by omega)
          have hin : 0 ≤ (i : Int) ∧ (i : Int) < (m : Int) := by omega
          clear hi hX hZ hu cx0 cz0 hTW
          go_upto_region 17 with fail
          refine wp_region_S (fun w' => w'.cell? ⟨gz, k, none⟩ = some (.int .i64 Z) ∧ w'.cell? ⟨bX, i, none⟩ = some (.int .i64 X) ∧ w'.cell? ⟨bF, 0, none⟩ = some (.int .i64 Q) ∧ w'.cell? ⟨bR, 0, none⟩ = some (.int .i64 Q) ∧ w'.cell? ⟨bR, 1, none⟩ = some (.int .i64 V) ∧ w'.cell? ⟨bR, 2, none⟩ = some (.int .i64 O)) 18 (by kernel_rfl) ?_
          have hS0 := (⟨cz, cx, HFB.out.1, HRB.out.1, HRB.out.2.1, HRB.out.2.2⟩ : (fun w' => w'.cell? ⟨gz, k, none⟩ = some (.int .i64 Z) ∧ w'.cell? ⟨bX, i, none⟩ = some (.int .i64 X) ∧ w'.cell? ⟨bF, 0, none⟩ = some (.int .i64 Q) ∧ w'.cell? ⟨bR, 0, none⟩ = some (.int .i64 Q) ∧ w'.cell? ⟨bR, 1, none⟩ = some (.int .i64 V) ∧ w'.cell? ⟨bR, 2, none⟩ = some (.int .i64 O)) wr.drew)
          refine wpAnyS_take (i := 0) (v := ?_) (by kernel_rfl) rfl (fun _ _ _ h => h) rfl hS0 (fun w hSw => by (try dsimp only at hSw); go_simp; (try simp only [hwm, hws, htm, hmt, if_neg hm00, if_neg hq00, hin, and_self, if_true, Int.toNat_natCast]); try with_reducible rfl) ?_
          try simp only [List.getElem_toArray, List.getElem_cons_zero, List.getElem_cons_succ, Act.put, List.setIfInBounds_toArray, List.set_cons_zero, List.set_cons_succ]
          refine wpAnyS_take (i := 1) (v := ?_) (by kernel_rfl) rfl (fun _ _ _ h => h) rfl hS0 (fun w hSw => by (try dsimp only at hSw); go_simp; (try simp only [hwm, hws, htm, hmt, if_neg hm00, if_neg hq00, hin, and_self, if_true, Int.toNat_natCast]); try with_reducible rfl) ?_
          try simp only [List.getElem_toArray, List.getElem_cons_zero, List.getElem_cons_succ, Act.put, List.setIfInBounds_toArray, List.set_cons_zero, List.set_cons_succ]
          refine wpAnyS_take (i := 2) (v := ?_) (by kernel_rfl) rfl (fun _ _ _ h => h) rfl hS0 (fun w hSw => by (try dsimp only at hSw); go_simp; (try simp only [hwm, hws, htm, hmt, if_neg hm00, if_neg hq00, hin, and_self, if_true, Int.toNat_natCast]); try with_reducible rfl) ?_
          try simp only [List.getElem_toArray, List.getElem_cons_zero, List.getElem_cons_succ, Act.put, List.setIfInBounds_toArray, List.set_cons_zero, List.set_cons_succ]
          refine wpAnyS_take (i := 3) (v := ?_) (by kernel_rfl) rfl (fun _ _ _ h => h) rfl hS0 (fun w hSw => by (try dsimp only at hSw); go_simp; (try simp only [hwm, hws, htm, hmt, if_neg hm00, if_neg hq00, hin, and_self, if_true, Int.toNat_natCast]); try with_reducible rfl) ?_
          try simp only [List.getElem_toArray, List.getElem_cons_zero, List.getElem_cons_succ, Act.put, List.setIfInBounds_toArray, List.set_cons_zero, List.set_cons_succ]
          refine wpAnyS_take (i := 4) (v := ?_) (by kernel_rfl) rfl (fun _ _ _ h => h) rfl hS0 (fun w hSw => by (try dsimp only at hSw); go_simp; (try simp only [hwm, hws, htm, hmt, if_neg hm00, if_neg hq00, hin, and_self, if_true, Int.toNat_natCast]); try with_reducible rfl) ?_
          try simp only [List.getElem_toArray, List.getElem_cons_zero, List.getElem_cons_succ, Act.put, List.setIfInBounds_toArray, List.set_cons_zero, List.set_cons_succ]
          refine wpAnyS_take (i := 5) (v := ?_) (by kernel_rfl) rfl (fun _ _ _ h => h) rfl hS0 (fun w hSw => by (try dsimp only at hSw); go_simp; (try simp only [hwm, hws, htm, hmt, if_neg hm00, if_neg hq00, hin, and_self, if_true, Int.toNat_natCast]); try with_reducible rfl) ?_
          try simp only [List.getElem_toArray, List.getElem_cons_zero, List.getElem_cons_succ, Act.put, List.setIfInBounds_toArray, List.set_cons_zero, List.set_cons_succ]
          refine wpAnyS_take (i := 6) (v := ?_) (by kernel_rfl) rfl (fun _ _ _ h => h) rfl hS0 (fun w hSw => by (try dsimp only at hSw); go_simp; (try simp only [hwm, hws, htm, hmt, if_neg hm00, if_neg hq00, hin, and_self, if_true, Int.toNat_natCast]); try with_reducible rfl) ?_
          try simp only [List.getElem_toArray, List.getElem_cons_zero, List.getElem_cons_succ, Act.put, List.setIfInBounds_toArray, List.set_cons_zero, List.set_cons_succ]
          refine wpAnyS_take (i := 7) (v := ?_) (by kernel_rfl) rfl (fun _ _ _ h => h) rfl hS0 (fun w hSw => by (try dsimp only at hSw); go_simp; (try simp only [hwm, hws, htm, hmt, if_neg hm00, if_neg hq00, hin, and_self, if_true, Int.toNat_natCast]); try with_reducible rfl) ?_
          try simp only [List.getElem_toArray, List.getElem_cons_zero, List.getElem_cons_succ, Act.put, List.setIfInBounds_toArray, List.set_cons_zero, List.set_cons_succ]
          refine wpAnyS_take (i := 8) (v := ?_) (by kernel_rfl) rfl (fun _ _ _ h => h) rfl hS0 (fun w hSw => by (try dsimp only at hSw); go_simp; (try simp only [hwm, hws, htm, hmt, if_neg hm00, if_neg hq00, hin, and_self, if_true, Int.toNat_natCast]); try with_reducible rfl) ?_
          try simp only [List.getElem_toArray, List.getElem_cons_zero, List.getElem_cons_succ, Act.put, List.setIfInBounds_toArray, List.set_cons_zero, List.set_cons_succ]
          refine wpAnyS_take (i := 9) (v := ?_) (by kernel_rfl) rfl (fun _ _ _ h => h) rfl hS0 (fun w hSw => by (try dsimp only at hSw); go_simp; (try simp only [hwm, hws, htm, hmt, if_neg hm00, if_neg hq00, hin, and_self, if_true, Int.toNat_natCast]); try with_reducible rfl) ?_
          try simp only [List.getElem_toArray, List.getElem_cons_zero, List.getElem_cons_succ, Act.put, List.setIfInBounds_toArray, List.set_cons_zero, List.set_cons_succ]
          refine wpAnyS_take (i := 10) (v := ?_) (by kernel_rfl) rfl (fun _ _ _ h => h) rfl hS0 (fun w hSw => by (try dsimp only at hSw); go_simp; (try simp only [hwm, hws, htm, hmt, if_neg hm00, if_neg hq00, hin, and_self, if_true, Int.toNat_natCast]); try with_reducible rfl) ?_
          try simp only [List.getElem_toArray, List.getElem_cons_zero, List.getElem_cons_succ, Act.put, List.setIfInBounds_toArray, List.set_cons_zero, List.set_cons_succ]
          refine wpAnyS_take (i := 11) (v := ?_) (by kernel_rfl) rfl (fun _ _ _ h => h) rfl hS0 (fun w hSw => by (try dsimp only at hSw); go_simp; (try simp only [hwm, hws, htm, hmt, if_neg hm00, if_neg hq00, hin, and_self, if_true, Int.toNat_natCast]); try with_reducible rfl) ?_
          try simp only [List.getElem_toArray, List.getElem_cons_zero, List.getElem_cons_succ, Act.put, List.setIfInBounds_toArray, List.set_cons_zero, List.set_cons_succ]
          refine wpAnyS_take (i := 12) (v := ?_) (by kernel_rfl) rfl (fun _ _ _ h => h) rfl hS0 (fun w hSw => by (try dsimp only at hSw); go_simp; (try simp only [hwm, hws, htm, hmt, if_neg hm00, if_neg hq00, hin, and_self, if_true, Int.toNat_natCast]); try with_reducible rfl) ?_
          try simp only [List.getElem_toArray, List.getElem_cons_zero, List.getElem_cons_succ, Act.put, List.setIfInBounds_toArray, List.set_cons_zero, List.set_cons_succ]
          refine wpAnyS_take (i := 13) (v := ?_) (by kernel_rfl) rfl (fun _ _ _ h => h) rfl hS0 (fun w hSw => by (try dsimp only at hSw); go_simp; (try simp only [hwm, hws, htm, hmt, if_neg hm00, if_neg hq00, hin, and_self, if_true, Int.toNat_natCast]); try with_reducible rfl) ?_
          try simp only [List.getElem_toArray, List.getElem_cons_zero, List.getElem_cons_succ, Act.put, List.setIfInBounds_toArray, List.set_cons_zero, List.set_cons_succ]
          refine wpAnyS_take (i := 14) (v := ?_) (by kernel_rfl) rfl (fun _ _ _ h => h) rfl hS0 (fun w hSw => by (try dsimp only at hSw); go_simp; (try simp only [hwm, hws, htm, hmt, if_neg hm00, if_neg hq00, hin, and_self, if_true, Int.toNat_natCast]); try with_reducible rfl) ?_
          try simp only [List.getElem_toArray, List.getElem_cons_zero, List.getElem_cons_succ, Act.put, List.setIfInBounds_toArray, List.set_cons_zero, List.set_cons_succ]
          refine wpAnyS_take (i := 15) (v := ?_) (by kernel_rfl) rfl (fun _ _ _ h => h) rfl hS0 (fun w hSw => by (try dsimp only at hSw); go_simp; (try simp only [hwm, hws, htm, hmt, if_neg hm00, if_neg hq00, hin, and_self, if_true, Int.toNat_natCast]); try with_reducible rfl) ?_
          try simp only [List.getElem_toArray, List.getElem_cons_zero, List.getElem_cons_succ, Act.put, List.setIfInBounds_toArray, List.set_cons_zero, List.set_cons_succ]
          refine wpAnyS_take (i := 16) (v := ?_) (by kernel_rfl) rfl (fun _ _ _ h => h) rfl hS0 (fun w hSw => by (try dsimp only at hSw); go_simp; (try simp only [hwm, hws, htm, hmt, if_neg hm00, if_neg hq00, hin, and_self, if_true, Int.toNat_natCast]); try with_reducible rfl) ?_
          try simp only [List.getElem_toArray, List.getElem_cons_zero, List.getElem_cons_succ, Act.put, List.setIfInBounds_toArray, List.set_cons_zero, List.set_cons_succ]
          refine wpAnyS_one (i := 17) (by kernel_rfl) rfl rfl (fun K hK => ?_)
          go_simp
          refine (HMU.out _).mono ?_
          rintro z wM ⟨rfl, hbM⟩
          have HBM := Lib.hid hbM
          have hS1 := (⟨keep_cell hbM hS0.1, keep_cell hbM hS0.2.1, keep_cell hbM hS0.2.2.1, keep_cell hbM hS0.2.2.2.1, keep_cell hbM hS0.2.2.2.2.1, keep_cell hbM hS0.2.2.2.2.2⟩ : (fun w' => w'.cell? ⟨gz, k, none⟩ = some (.int .i64 Z) ∧ w'.cell? ⟨bX, i, none⟩ = some (.int .i64 X) ∧ w'.cell? ⟨bF, 0, none⟩ = some (.int .i64 Q) ∧ w'.cell? ⟨bR, 0, none⟩ = some (.int .i64 Q) ∧ w'.cell? ⟨bR, 1, none⟩ = some (.int .i64 V) ∧ w'.cell? ⟨bR, 2, none⟩ = some (.int .i64 O)) wM)
          clear hbM
          refine hK.out _ _ (fun _ => hS1) ?_
          clear hK K
          try simp only [List.getElem_toArray, List.getElem_cons_zero, List.getElem_cons_succ, Act.put, List.setIfInBounds_toArray, List.set_cons_zero, List.set_cons_succ]
          refine wpAnyS_end 1 18 (by kernel_rfl) (by decide) rfl ?_
          simp only [List.toList_toArray, List.drop_succ_cons, List.drop_zero]
          clear hS0 hS1
          have HWM : Hid (Below w9.heap.size w9 wM) := Lib.hid ((hbw.out.trans ((Below.refl _ wr).drew.mono hbw.out.size)).trans (HBM.out.mono hbw.out.size))
          clear cz cx HBM
          go_wp2
          exact ⟨⟨k + 1, by omega, by go_num, HWM⟩, by simp [intOf]; omega⟩
        · obtain rfl : k = m := by omega
          go_wp2
          go_ret
          exact ⟨rfl, HB9.out.trans (hbw.out.mono HB9.out.size)⟩
  · have hdt : decide (checkE kind m r q m = 0) = false := decide_eq_false he
    rw [hdt]
    clear hdt he
    go_wp2_with fail
    refine (HWK.out _).mono ?_
    rintro z w3 ⟨rfl, hb3⟩
    have HB3 : Hid (Below w.heap.size w w3) := Lib.hid (HB2.out.trans (hb3.mono HB2.out.size))
    clear hb3
    go_wp2_with fail
    refine (HWK.out _).mono ?_
    rintro z w4 ⟨rfl, hb4⟩
    have HB4 : Hid (Below w.heap.size w w4) := Lib.hid (HB3.out.trans (hb4.mono HB3.out.size))
    clear hb4
    go_wp2
    go_ret
    exact ⟨rfl, HB4.out⟩
end Go.Proofs.Yteaimnemobnknaa
