/- The walk of ModelShift. -/
import Derived.Test.YteaimnemobnknaaM8
set_option linter.unusedSimpArgs false
set_option linter.unusedVariables false
namespace Go.Proofs.Yteaimnemobnknaa
open Go.RowKit Go.Lib

set_option maxRecDepth 100000 in
set_option maxHeartbeats 16000000 in
theorem MShift_any (a0 : Int) (b0 : -9223372036854775808 ≤ a0) (b1 : a0 ≤ 9223372036854775807) (Ac : Option Addr) (nc cc : Nat) (f : Nat → Int) (Al : Option Addr) (nl cl : Nat) (l : Nat → Int) (w : World) (hI : IntsAt w Ac nc f) (hnc : nc ≤ 1125899906842624) (hL : IntsAt w Al nl l) (hR : Rng l) (hnl : nl ≤ 1125899906842624) :
    Calls Try.prog 11 #[.int .i64 a0, .slice Ac nc cc, .slice Al nl cl] w (Ret w (.bool true)) := by
  have HI := Lib.hid hI
  have HL := Lib.hid hL
  have HR := Lib.hid hR
  clear hI hL hR
  go_enter Try.func11, Try.ntmps11
  go_upto_region 1 with (fail)
  go_cut [0] from 18 to 21 (fun s0 wx => ∃ m : Nat, 1 ≤ m ∧ m ≤ 100 ∧ s0 = .int .i64 m ∧ w = wx)
  case first =>
    have h0 := Int.emod_nonneg a0 (show (100 : Int) ≠ 0 by omega)
    have h1 := Int.emod_lt_of_pos a0 (show (0 : Int) < 100 by omega)
    by_cases hneg : a0 ≤ 0
    · go_wp2_with fail
      go_meet
      exact ⟨1, by omega, by omega, rfl, rfl⟩
    · have ht : a0.tmod 100 = a0 % 100 := Int.tmod_eq_emod_of_nonneg (by omega)
      obtain ⟨x, hx⟩ : ∃ x, a0 % 100 = x := ⟨_, rfl⟩
      rw [hx] at h0 h1 ht
      clear hx
      go_wp2_with fail
      go_meet
      exact ⟨(1 + x).toNat, by omega, by omega, by rw [Int.toNat_of_nonneg (by omega)], rfl⟩
  case rest =>
  obtain ⟨m, hm1, hm2, rfl, rfl⟩ := hcut
  apply_assumption
  have HPO := Lib.hid (planOf19 m hm1 (by omega) Ac nc cc f w HI.out hnc)
  go_wp2_with fail
  refine HPO.out.mono ?_
  rintro z w1 ⟨kind, r, q, Bk, ck, rfl, hq, hkd, hb1⟩
  have HQ := Lib.hid (show q.count ≤ 549755813888 by omega)
  have HB1 := Lib.hid hb1
  have HK1 := Lib.hid hkd
  clear HPO hb1 hkd hq
  go_upto_region 3 with (fail)
  obtain ⟨w2, hw2⟩ : ∃ w2, w2 = w1.alloc (.cells #[.int .i64 kind, .int .i64 m, .int .i64 r, .slice Bk q.len ck] 26) := ⟨_, rfl⟩
  have hb2 : Below w1.heap.size w1 w2 := by rw [hw2]; exact (Below.refl _ w1).alloc (Nat.le_refl _) _
  have hp2 := PlBox.new w1 kind m r Bk q.len ck 26
  rw [← hw2] at hp2 ⊢
  obtain ⟨bP, hbP⟩ : ∃ bP, w1.heap.size = bP := ⟨_, rfl⟩
  rw [hbP] at hp2 ⊢
  have HP2 := Lib.hid hp2
  have HK2 := Lib.hid (HK1.out.below hb2)
  have HB2 : Hid (Below w.heap.size w w2) := Lib.hid (HB1.out.trans (hb2.mono HB1.out.size))
  have HWK := Lib.hid (fun w => wakes19 w)
  clear hw2 hb2 hp2 hbP HB1 HK1
  by_cases he : checkE kind m r q m = 0
  · have hdt : decide (checkE kind m r q m = 0) = true := decide_eq_true he
    rw [hdt]
    have HE := Lib.hid he
    clear hdt he
    go_wp2_with fail
    refine (HWK.out _).mono ?_
    rintro z w3 ⟨rfl, hb3⟩
    have HP3 := Lib.hid (HP2.out.below hb3)
    have HK3 := Lib.hid (HK2.out.below hb3)
    have HB3 : Hid (Below w.heap.size w w3) := Lib.hid (HB2.out.trans (hb3.mono HB2.out.size))
    have HSM := Lib.hid (small19 kind m r q HQ.out w3 Bk ck HK3.out)
    obtain ⟨p0, p1, p2, p3⟩ := HP3.out
    clear hb3 HP2 HK2 HB2
    by_cases hsm : (ordR kind m r q).2 = 0 ∧ (ordR kind m r q).1 ≤ 4294967296
    · rw [decide_eq_true hsm] at HSM
      obtain ⟨o, Q, ho, F⟩ := small_field hm2 hsm
      have HO := Lib.hid ho
      have HF := Lib.hid F
      clear hsm ho F
      go_wp2_with fail
      refine HSM.out.mono ?_
      rintro z w4 ⟨rfl, hb4⟩
      have HB4 : Hid (Below w.heap.size w w4) := Lib.hid (HB3.out.trans (hb4.mono HB3.out.size))
      have HP4 := Lib.hid (HP3.out.below hb4)
      have HK4 := Lib.hid (HK3.out.below hb4)
      have HLI := Lib.hid (fun w h => list19 Al nl cl m l w h hnl (by omega))
      obtain ⟨m0, rfl⟩ : ∃ m0, m = m0 + 1 := ⟨m - 1, by omega⟩
      clear hb4 HP3 HK3 HB3 HSM p0 p1 p2 p3 HWK
      go_wp2_with fail
      refine (HLI.out _ (HL.out.keep HB4.out)).mono ?_
      rintro z w5 ⟨bX, rfl, -, hx5, hb5⟩
      have HB5 : Hid (Below w.heap.size w w5) := Lib.hid (HB4.out.trans (hb5.mono HB4.out.size))
      have HP5 := Lib.hid (HP4.out.below hb5)
      have HK5 := Lib.hid (HK4.out.below hb5)
      have hRX : Rng (listF nl l) := listF_rng HR.out
      obtain ⟨X, hX⟩ : ∃ X, listF nl l = X := ⟨_, rfl⟩
      rw [hX] at hx5 hRX
      have HX5 := Lib.hid hx5
      have HRX := Lib.hid hRX
      obtain ⟨bx', ox', ex, hx0⟩ := hx5 0 (by omega)
      injection ex with ex
      injection ex with ex1 ex2
      subst ex1 ex2
      have HX0 := Lib.hid hx0
      obtain ⟨i0, hi0, hz0, hz1, hz2⟩ := info_parts info_int64
      have bs := bs_int64
      have HON : Hid (∀ u ∈ intsV m0 (fun i => X (1 + i)), u.oneCell' = true) := Lib.hid (fun u hu => by
        unfold intsV at hu
        obtain ⟨i, -, rfl⟩ := List.mem_map.1 hu
        rfl)
      obtain ⟨oX, hoc, HSRC⟩ : ∃ oX : Nat, (oX = if m0 = 0 then 0 else 1) ∧ Hid (∀ w', Below w5.heap.size w5 w' → ∀ j u, (intsV m0 (fun i => X (1 + i)))[j]? = some u → w'.cell? ((⟨bX, oX, none⟩ : Addr).add j) = some u) := by
        refine ⟨if m0 = 0 then 0 else 1, rfl, Lib.hid (fun w' hb j u hj => ?_)⟩
        have hjl : j < m0 := by
          have := (List.getElem?_eq_some_iff.1 hj).1
          rwa [intsV_len] at this
        rw [intsV_at _ _ _ hjl] at hj
        injection hj with hj
        subst hj
        rw [if_neg (by omega)]
        obtain ⟨b', o', e', hc⟩ := HX5.out.keep hb (1 + j) (by omega)
        injection e' with e'
        injection e' with e1 e2
        subst e1 e2
        rw [Nat.zero_add] at hc
        rw [Addr.add]
        split
        · rename_i e; subst e; exact hc
        · exact hc
      have hadr : (if m0 = 0 then some (⟨bX, 0, none⟩ : Addr) else some ⟨bX, 1, none⟩) = some ⟨bX, oX, none⟩ := by rw [hoc]; split <;> rfl
      have h1m : (1 : Int) ≤ (m0 : Int) + 1 := by omega
      clear hb5 hx5 HP4 HK4 HB4 hX hoc
      go_upto_region 6 with (fail)
      refine wp_region_S (fun w' => w'.cell? ⟨bX, 0, none⟩ = some (.int .i64 (X 0)) ∧ Hid (Below w5.heap.size w5 w')) 7 (by kernel_rfl) ?_
      have hS0 := (⟨hx0, Lib.hid (Below.refl _ w5).drew⟩ : (fun w' => w'.cell? ⟨bX, 0, none⟩ = some (.int .i64 (X 0)) ∧ Hid (Below w5.heap.size w5 w')) w5.drew)
      have HBz0 : Hid (Below w5.heap.size w5 w5.drew) := Lib.hid (Below.refl _ w5).drew
      generalize w5.drew = z0 at *
      refine wpAnyS_take (i := 0) (v := ?_) (by kernel_rfl) rfl (fun _ _ _ h => h) rfl hS0 (fun w hSw => by (try dsimp only at hSw); go_simp; try with_reducible rfl) ?_
      try simp only [List.getElem_toArray, List.getElem_cons_zero, List.getElem_cons_succ, Act.put, List.setIfInBounds_toArray, List.set_cons_zero, List.set_cons_succ]
      refine wpAnyS_take (i := 1) (v := ?_) (by kernel_rfl) rfl (fun _ _ _ h => h) rfl hS0 (fun w hSw => by (try dsimp only at hSw); go_simp; try with_reducible rfl) ?_
      try simp only [List.getElem_toArray, List.getElem_cons_zero, List.getElem_cons_succ, Act.put, List.setIfInBounds_toArray, List.set_cons_zero, List.set_cons_succ]
      refine wpAnyS_take (i := 3) (v := ?_) (by kernel_rfl) rfl (fun _ _ _ h => h) rfl hS0 (fun w hSw => by (try dsimp only at hSw); go_simp; try with_reducible rfl) ?_
      try simp only [List.getElem_toArray, List.getElem_cons_zero, List.getElem_cons_succ, Act.put, List.setIfInBounds_toArray, List.set_cons_zero, List.set_cons_succ]
      refine wpAnyS_take (i := 4) (v := ?_) (by kernel_rfl) rfl (fun _ _ _ h => h) rfl hS0 (fun w hSw => by (try dsimp only at hSw); go_simp; try with_reducible rfl) ?_
      try simp only [List.getElem_toArray, List.getElem_cons_zero, List.getElem_cons_succ, Act.put, List.setIfInBounds_toArray, List.set_cons_zero, List.set_cons_succ]
      refine wpAnyS_take (i := 5) (v := ?_) (by kernel_rfl) rfl (fun _ _ _ h => h) rfl hS0 (fun w hSw => by (try dsimp only at hSw); go_simp; try with_reducible rfl) ?_
      try simp only [List.getElem_toArray, List.getElem_cons_zero, List.getElem_cons_succ, Act.put, List.setIfInBounds_toArray, List.set_cons_zero, List.set_cons_succ]
      refine wpAnyS_two (i := 2) (j := 6) (di := 45) (dj := 49) (fun v2 v6 w' => Hid (w'.ownsRow w5.heap.size 2 1 v2 m0 (intsV m0 (fun i => X (1 + i)))) ∧ ∃ bN, v6 = .slice (some ⟨bN, 0, none⟩) 1 1 ∧ w'.cell? ⟨bN, 0, none⟩ = some (.int .i64 (X 0))) (by kernel_rfl) rfl rfl (by decide) (by decide) rfl rfl (fun K hK => ?_) (fun K hK => ?_) ?_
      · try simp only [List.getElem_toArray, List.getElem_cons_zero, List.getElem_cons_succ, Act.put, List.setIfInBounds_toArray, List.set_cons_zero, List.set_cons_succ] at hK
        refine wp_append_own z0 (.const (.slice none 0 0)) (.tmp 44) 38 (by kernel_rfl) w5.heap.size 2 i0 (.int .i64 0) 1 8 Try.underlying38 hi0 hz0 hz1 hz2 rfl (by decide) (.slice none 0 0) 0 [] rfl (World.ownsRow_nil _ _ _ _) ⟨bX, oX, none⟩ m0 m0 (intsV m0 (fun i => X (1 + i))) (by kernel_rfl) (by rw [intsV_len, Nat.mul_one]) (HSRC.out z0 HBz0.out) HON.out (by unfold maxLen; omega) (by omega) HBz0.out.size ?_
        rintro v2 z1 hO2 hG2 -
        rw [Nat.zero_add, List.nil_append] at hO2
        have HBz1 : Hid (Below w5.heap.size w5 z1) := Lib.hid (HBz0.out.grown hG2 HBz0.out.size (fun k e => by cases e))
        have hT1 : (fun w' => w'.cell? ⟨bX, 0, none⟩ = some (.int .i64 (X 0)) ∧ Hid (Below w5.heap.size w5 w')) z1 := ⟨(keep_cell HBz1.out HX0.out), HBz1⟩
        refine hK.out _ _ hT1 (fun K2 hK2 => ?_)
        clear hK K
        try simp only [List.getElem_toArray, List.getElem_cons_zero, List.getElem_cons_succ, Act.put, List.setIfInBounds_toArray, List.set_cons_zero, List.set_cons_succ] at hK2 ⊢
        go_simp
        obtain ⟨z2, hwx⟩ : ∃ z2, z2 = z1.alloc (.cells #[.int .i64 (X 0)] 2) := ⟨_, rfl⟩
        have hcc : Below z1.heap.size z1 z2 := by rw [hwx]; exact (Below.refl _ z1).alloc (Nat.le_refl _) _
        have hcn : z2.cell? ⟨z1.heap.size, 0, none⟩ = some (.int .i64 (X 0)) := by rw [hwx]; exact cells_one _ _ _ _ rfl 0 _ rfl
        rw [← hwx]
        have HBz2 : Hid (Below w5.heap.size w5 z2) := Lib.hid (HBz1.out.trans (hcc.mono HBz1.out.size))
        have hT2 : (fun w' => w'.cell? ⟨bX, 0, none⟩ = some (.int .i64 (X 0)) ∧ Hid (Below w5.heap.size w5 w')) z2 := ⟨(keep_cell HBz2.out HX0.out), HBz2⟩
        refine hK2.out _ _ hT2 ⟨Lib.hid (owns_below hO2 hcc), _, rfl, hcn⟩
      · try simp only [List.getElem_toArray, List.getElem_cons_zero, List.getElem_cons_succ, Act.put, List.setIfInBounds_toArray, List.set_cons_zero, List.set_cons_succ] at hK
        go_simp
        obtain ⟨z1, hwx⟩ : ∃ z1, z1 = z0.alloc (.cells #[.int .i64 (X 0)] 2) := ⟨_, rfl⟩
        have hcc : Below z0.heap.size z0 z1 := by rw [hwx]; exact (Below.refl _ z0).alloc (Nat.le_refl _) _
        have hcn : z1.cell? ⟨z0.heap.size, 0, none⟩ = some (.int .i64 (X 0)) := by rw [hwx]; exact cells_one _ _ _ _ rfl 0 _ rfl
        rw [← hwx]
        have HBz1 : Hid (Below w5.heap.size w5 z1) := Lib.hid (HBz0.out.trans (hcc.mono HBz0.out.size))
        have hT1 : (fun w' => w'.cell? ⟨bX, 0, none⟩ = some (.int .i64 (X 0)) ∧ Hid (Below w5.heap.size w5 w')) z1 := ⟨(keep_cell HBz1.out HX0.out), HBz1⟩
        refine hK.out _ _ hT1 (fun K2 hK2 => ?_)
        clear hK K
        try simp only [List.getElem_toArray, List.getElem_cons_zero, List.getElem_cons_succ, Act.put, List.setIfInBounds_toArray, List.set_cons_zero, List.set_cons_succ] at hK2 ⊢
        refine wp_append_own z1 (.const (.slice none 0 0)) (.tmp 44) 38 (by kernel_rfl) w5.heap.size 2 i0 (.int .i64 0) 1 8 Try.underlying38 hi0 hz0 hz1 hz2 rfl (by decide) (.slice none 0 0) 0 [] rfl (World.ownsRow_nil _ _ _ _) ⟨bX, oX, none⟩ m0 m0 (intsV m0 (fun i => X (1 + i))) (by kernel_rfl) (by rw [intsV_len, Nat.mul_one]) (HSRC.out z1 HBz1.out) HON.out (by unfold maxLen; omega) (by omega) HBz1.out.size ?_
        rintro v2 z2 hO2 hG2 -
        rw [Nat.zero_add, List.nil_append] at hO2
        have HBz2 : Hid (Below w5.heap.size w5 z2) := Lib.hid (HBz1.out.grown hG2 HBz1.out.size (fun k e => by cases e))
        have hT2 : (fun w' => w'.cell? ⟨bX, 0, none⟩ = some (.int .i64 (X 0)) ∧ Hid (Below w5.heap.size w5 w')) z2 := ⟨(keep_cell HBz2.out HX0.out), HBz2⟩
        refine hK2.out _ _ hT2 ⟨Lib.hid hO2, _, rfl, ?_⟩
        exact grown_cell hG2 hcn (fun e => by cases e)
      rintro v2 v6 z3 hS3 ⟨HO3, bN, rfl, hcN⟩
      try simp only [List.getElem_toArray, List.getElem_cons_zero, List.getElem_cons_succ, Act.put, List.setIfInBounds_toArray, List.set_cons_zero, List.set_cons_succ]
      have HBz3 := hS3.2
      refine wpAnyS_end 2 7 (by kernel_rfl) (by decide) rfl ?_
      simp only [List.toList_toArray, List.drop_succ_cons, List.drop_zero]
      clear hS0 hS3
      have HNEW : Hid (∀ j u, [Value.int .i64 (X 0)][j]? = some u → z3.cell? ⟨bN, j, none⟩ = some u) := Lib.hid (fun j u hj => by
        match j, hj with
        | 0, hj => injection hj with hj; subst hj; exact hcN
        | j + 1, hj => simp at hj)
      clear hcN
      go_upto_region 7 with (at_builtin; refine wpList_appL rfl _ _ 38 2 rfl 1 8 (.int .i64 0) Try.underlying38 info_int64 rfl (by omega) (by omega) w5.heap.size v2 m0 (intsV m0 (fun i => X (1 + i))) rfl HO3.out _ _ [.int .i64 (X 0)] rfl rfl HNEW.out (one_int _) (by omega) HBz3.out.size ?_; intro gY cY w6 hO6 hG6 hL6)
      have hbz6 : Hid (Below w5.heap.size w5 w6) := Lib.hid (HBz3.out.grown hG6.out HBz3.out.size (fun k e => (World.ownsRow.lt HO3.out k e).1))
      have hO6' := hO6.out
      rw [← rotF_ints] at hO6'
      obtain ⟨AY, cY', hvY, hiY, -⟩ := owns_ints hO6'
      injection hvY with hY1 hY2 hY3
      subst hY1 hY3
      have HY6 := Lib.hid hiY
      have HEX := Lib.hid (fun (w : World) (h1 : Kids w Bk 0 q) (h2 : IntsAt w (some ⟨bX, 0, none⟩) (m0 + 1) X) => Exact_any kind (m0 + 1) r q 1 (.inl rfl) HQ.out o Q HF.out HO.out (by omega) w Bk ck h1 (some ⟨bX, 0, none⟩) (m0 + 1) X h2 HRX.out)
      have HEY := Lib.hid (fun (w : World) (h1 : Kids w Bk 0 q) (h2 : IntsAt w (some ⟨gY, 0, none⟩) (m0 + 1) (rotF (m0 + 1) X)) => Exact_any kind (m0 + 1) r q 1 (.inl rfl) HQ.out o Q HF.out HO.out (by omega) w Bk ck h1 (some ⟨gY, 0, none⟩) cY (rotF (m0 + 1) X) h2 (rotF_rng HRX.out))
      have HPG := Lib.hid (fun (v : Nat) (W : WofA o Q v) => planG HF.out W HO.out (show m0 + 1 ≤ 512 by omega))
      have hlo := HF.out.lo
      have hhi := HF.out.hi
      have hob := HF.out.ob
      have ho1 := HF.out.o1
      obtain ⟨p0, p1, p2, p3⟩ := HP5.out.below hbz6.out
      clear hiY hO6' hO6 hG6 hL6 HO3 HNEW hY2 hadr h1m HSRC hi0 hz0 hz1 hz2 hx0 HON
      go_wp2_with fail
      refine (HEX.out w6 (HK5.out.below hbz6.out) (HX5.out.keep hbz6.out)).mono ?_
      rintro z w7 ⟨v, gA, hv, rfl, hA, hb7⟩
      have HV := Lib.hid hv
      have HA7 := Lib.hid hA
      have HW7 := Lib.hid (hbz6.out.trans (hb7.mono hbz6.out.size))
      have HY7 := Lib.hid (HY6.out.keep hb7)
      clear hv hA hb7 HEX p0 p1 p2 p3
      go_upto_region 8 with (fail)
      obtain ⟨w8, hw8⟩ : ∃ w8, w8 = w7.alloc (.cells #[.int .i64 Q, .int .i64 v, .int .i64 o] 60) := ⟨_, rfl⟩
      have hb8 : Below w7.heap.size w7 w8 := by rw [hw8]; exact (Below.refl _ w7).alloc (Nat.le_refl _) _
      have hT8 := Tri.new w7 (Q : Int) v o 60
      rw [← hw8] at hT8 ⊢
      obtain ⟨bF, hbF⟩ : ∃ bF, w7.heap.size = bF := ⟨_, rfl⟩
      rw [hbF] at hT8 ⊢
      have HT8 := Lib.hid hT8
      have HA8 := Lib.hid (HA7.out.keep hb8)
      have HY8 := Lib.hid (HY7.out.keep hb8)
      have HW8 := Lib.hid (HW7.out.trans (hb8.mono HW7.out.size))
      obtain ⟨p0, p1, p2, p3⟩ := HP5.out.below HW8.out
      clear hw8 hb8 hT8 hbF HA7 HY7 HW7
      go_wp2_with fail
      refine (HEY.out w8 (HK5.out.below HW8.out) HY8.out).mono ?_
      rintro z w9 ⟨v', gB, hv', rfl, hB, hb9⟩
      obtain rfl := wofA_eq HV.out hv'
      have HB9 := Lib.hid hB
      have HA9 := Lib.hid (HA8.out.keep hb9)
      have HT9 := Lib.hid (HT8.out.below hb9)
      have HW9 := Lib.hid (HW8.out.trans (hb9.mono HW8.out.size))
      clear hv' hB hb9 HEY p0 p1 p2 p3 HA8 HY8 HT8 HW8
      go_upto_region 9 with (fail)
      obtain ⟨wa, hwa⟩ : ∃ wa, wa = w9.alloc (.cells #[.int .i64 Q, .int .i64 v, .int .i64 o] 60) := ⟨_, rfl⟩
      have hba : Below w9.heap.size w9 wa := by rw [hwa]; exact (Below.refl _ w9).alloc (Nat.le_refl _) _
      rw [← hwa]
      have HBa := Lib.hid (HB9.out.keep hba)
      have HAa := Lib.hid (HA9.out.keep hba)
      have HTa := Lib.hid (HT9.out.below hba)
      have HWa := Lib.hid (HW9.out.trans (hba.mono HW9.out.size))
      have HPv := Lib.hid (HPG.out v HV.out)
      clear hwa hba HB9 HA9 HT9 HW9 HPG
      go_wp2_with fail
      go_loopw [17, 85] (fun v17 v85 wr => ∃ k : Nat, k ≤ m0 + 1 ∧ v85 = .int .i64 k ∧ Hid (Below wa.heap.size wa wr)) (fun _ v85 _ => m0 + 1 - (intOf v85).toNat)
      case atStart => exact ⟨0, by omega, rfl, Lib.hid (Below.refl _ _)⟩
      case round =>
        obtain ⟨k, hk, rfl, hbw⟩ := hrel
        by_cases hlt : k < m0 + 1
        · have hki : (k : Int) < ((m0 + 1 : Nat) : Int) := by omega
          obtain ⟨b1', o1', e1, ca⟩ := HAa.out.keep hbw.out k hlt
          injection e1 with e1
          injection e1 with e2 e3
          subst e2 e3
          obtain ⟨b1', o1', e1, cb⟩ := HBa.out.keep hbw.out k hlt
          injection e1 with e1
          injection e1 with e2 e3
          subst e2 e3
          rw [Nat.zero_add] at ca cb
          obtain ⟨t0, t1, t2⟩ := HTa.out.below hbw.out
          have hvQ := HPv.out.fo.v
          have HRT := Lib.hid (fun w => froot_any Q v o (k : Int) (m0 + 1) (by omega) (by omega) (by omega) ho1 (by omega) (by omega) (by omega) (by omega) (by omega) w)
          have hrl := rootR_lt Q v o (by omega) (k : Int) ((m0 + 1 : Nat) : Int)
          have hbl := rdF_lt (v := v) (o := o) (n := m0 + 1) HPv.out.fo.pr.1 1 (remF Q (rotF (m0 + 1) X)) k
          have hmu := fun w => fmul_any Q v o ((rdF Q v o (m0 + 1) 1 (remF Q (rotF (m0 + 1) X)) k : Nat) : Int) ((rootR Q v o (k : Int) ((m0 + 1 : Nat) : Int) : Nat) : Int) (by omega) (by omega) (by omega) (by omega) (by omega) (by omega) w
          rw [shift_plain HPv.out.fo (by omega) HPv.out.dvd X k] at hmu
          have HMU := Lib.hid hmu
          generalize rootR Q v o (k : Int) ((m0 + 1 : Nat) : Int) = rt at *
          clear hmu hrl hbl
          go_upto_region 14 with (fail)
          refine wp_region_S (fun w' => w'.cell? ⟨bF, 0, none⟩ = some (.int .i64 Q) ∧ w'.cell? ⟨bF, 1, none⟩ = some (.int .i64 v) ∧ w'.cell? ⟨bF, 2, none⟩ = some (.int .i64 o) ∧ w'.cell? ⟨gB, k, none⟩ = some (.int .i64 ((rdF Q v o (m0 + 1) 1 (remF Q (rotF (m0 + 1) X)) k : Nat) : Int)) ∧ w'.cell? ⟨gA, k, none⟩ = some (.int .i64 ((rdF Q v o (m0 + 1) 1 (remF Q X) k : Nat) : Int))) 14 (by kernel_rfl) ?_
          have hS0 := (⟨t0, t1, t2, cb, ca⟩ : (fun w' => w'.cell? ⟨bF, 0, none⟩ = some (.int .i64 Q) ∧ w'.cell? ⟨bF, 1, none⟩ = some (.int .i64 v) ∧ w'.cell? ⟨bF, 2, none⟩ = some (.int .i64 o) ∧ w'.cell? ⟨gB, k, none⟩ = some (.int .i64 ((rdF Q v o (m0 + 1) 1 (remF Q (rotF (m0 + 1) X)) k : Nat) : Int)) ∧ w'.cell? ⟨gA, k, none⟩ = some (.int .i64 ((rdF Q v o (m0 + 1) 1 (remF Q X) k : Nat) : Int))) wr.drew)
          refine wpAnyS_take (i := 0) (v := ?_) (by kernel_rfl) rfl (fun _ _ _ h => h) rfl hS0 (fun w hSw => by (try dsimp only at hSw); go_simp; try with_reducible rfl) ?_
          try simp only [List.getElem_toArray, List.getElem_cons_zero, List.getElem_cons_succ, Act.put, List.setIfInBounds_toArray, List.set_cons_zero, List.set_cons_succ]
          refine wpAnyS_take (i := 1) (v := ?_) (by kernel_rfl) rfl (fun _ _ _ h => h) rfl hS0 (fun w hSw => by (try dsimp only at hSw); go_simp; try with_reducible rfl) ?_
          try simp only [List.getElem_toArray, List.getElem_cons_zero, List.getElem_cons_succ, Act.put, List.setIfInBounds_toArray, List.set_cons_zero, List.set_cons_succ]
          refine wpAnyS_take (i := 2) (v := ?_) (by kernel_rfl) rfl (fun _ _ _ h => h) rfl hS0 (fun w hSw => by (try dsimp only at hSw); go_simp; try with_reducible rfl) ?_
          try simp only [List.getElem_toArray, List.getElem_cons_zero, List.getElem_cons_succ, Act.put, List.setIfInBounds_toArray, List.set_cons_zero, List.set_cons_succ]
          refine wpAnyS_take (i := 3) (v := ?_) (by kernel_rfl) rfl (fun _ _ _ h => h) rfl hS0 (fun w hSw => by (try dsimp only at hSw); go_simp; try with_reducible rfl) ?_
          try simp only [List.getElem_toArray, List.getElem_cons_zero, List.getElem_cons_succ, Act.put, List.setIfInBounds_toArray, List.set_cons_zero, List.set_cons_succ]
          refine wpAnyS_take (i := 4) (v := ?_) (by kernel_rfl) rfl (fun _ _ _ h => h) rfl hS0 (fun w hSw => by (try dsimp only at hSw); go_simp; try with_reducible rfl) ?_
          try simp only [List.getElem_toArray, List.getElem_cons_zero, List.getElem_cons_succ, Act.put, List.setIfInBounds_toArray, List.set_cons_zero, List.set_cons_succ]
          refine wpAnyS_take (i := 5) (v := ?_) (by kernel_rfl) rfl (fun _ _ _ h => h) rfl hS0 (fun w hSw => by (try dsimp only at hSw); go_simp; try with_reducible rfl) ?_
          try simp only [List.getElem_toArray, List.getElem_cons_zero, List.getElem_cons_succ, Act.put, List.setIfInBounds_toArray, List.set_cons_zero, List.set_cons_succ]
          refine wpAnyS_take (i := 6) (v := ?_) (by kernel_rfl) rfl (fun _ _ _ h => h) rfl hS0 (fun w hSw => by (try dsimp only at hSw); go_simp; try with_reducible rfl) ?_
          try simp only [List.getElem_toArray, List.getElem_cons_zero, List.getElem_cons_succ, Act.put, List.setIfInBounds_toArray, List.set_cons_zero, List.set_cons_succ]
          refine wpAnyS_take (i := 7) (v := ?_) (by kernel_rfl) rfl (fun _ _ _ h => h) rfl hS0 (fun w hSw => by (try dsimp only at hSw); go_simp; try with_reducible rfl) ?_
          try simp only [List.getElem_toArray, List.getElem_cons_zero, List.getElem_cons_succ, Act.put, List.setIfInBounds_toArray, List.set_cons_zero, List.set_cons_succ]
          refine wpAnyS_take (i := 10) (v := ?_) (by kernel_rfl) rfl (fun _ _ _ h => h) rfl hS0 (fun w hSw => by (try dsimp only at hSw); go_simp; try with_reducible rfl) ?_
          try simp only [List.getElem_toArray, List.getElem_cons_zero, List.getElem_cons_succ, Act.put, List.setIfInBounds_toArray, List.set_cons_zero, List.set_cons_succ]
          refine wpAnyS_take (i := 11) (v := ?_) (by kernel_rfl) rfl (fun _ _ _ h => h) rfl hS0 (fun w hSw => by (try dsimp only at hSw); go_simp; try with_reducible rfl) ?_
          try simp only [List.getElem_toArray, List.getElem_cons_zero, List.getElem_cons_succ, Act.put, List.setIfInBounds_toArray, List.set_cons_zero, List.set_cons_succ]
          refine wpAnyS_take (i := 12) (v := ?_) (by kernel_rfl) rfl (fun _ _ _ h => h) rfl hS0 (fun w hSw => by (try dsimp only at hSw); go_simp; try with_reducible rfl) ?_
          try simp only [List.getElem_toArray, List.getElem_cons_zero, List.getElem_cons_succ, Act.put, List.setIfInBounds_toArray, List.set_cons_zero, List.set_cons_succ]
          refine wpAnyS_take (i := 13) (v := ?_) (by kernel_rfl) rfl (fun _ _ _ h => h) rfl hS0 (fun w hSw => by (try dsimp only at hSw); go_simp; try with_reducible rfl) ?_
          try simp only [List.getElem_toArray, List.getElem_cons_zero, List.getElem_cons_succ, Act.put, List.setIfInBounds_toArray, List.set_cons_zero, List.set_cons_succ]
          refine wpAnyS_one (i := 8) (by kernel_rfl) rfl rfl (fun K hK => ?_)
          go_simp
          refine (HRT.out _).mono ?_
          rintro z wy ⟨rfl, hby⟩
          have hry : Below wr.heap.size wr wy := (Below.refl _ wr).drew.trans hby
          have hS1 : (fun w' => w'.cell? ⟨bF, 0, none⟩ = some (.int .i64 Q) ∧ w'.cell? ⟨bF, 1, none⟩ = some (.int .i64 v) ∧ w'.cell? ⟨bF, 2, none⟩ = some (.int .i64 o) ∧ w'.cell? ⟨gB, k, none⟩ = some (.int .i64 ((rdF Q v o (m0 + 1) 1 (remF Q (rotF (m0 + 1) X)) k : Nat) : Int)) ∧ w'.cell? ⟨gA, k, none⟩ = some (.int .i64 ((rdF Q v o (m0 + 1) 1 (remF Q X) k : Nat) : Int))) wy := ⟨keep_cell hry t0, keep_cell hry t1, keep_cell hry t2, keep_cell hry cb, keep_cell hry ca⟩
          refine hK.out _ _ (fun _ => hS1) ?_
          clear hK K
          try simp only [List.getElem_toArray, List.getElem_cons_zero, List.getElem_cons_succ, Act.put, List.setIfInBounds_toArray, List.set_cons_zero, List.set_cons_succ]
          refine wpAnyS_one (i := 9) (by kernel_rfl) rfl rfl (fun K hK => ?_)
          go_simp
          refine (HMU.out _).mono ?_
          rintro z wz ⟨rfl, hbz⟩
          have hrz : Below wr.heap.size wr wz := hry.trans (hbz.mono hry.size)
          have hS2 : (fun w' => w'.cell? ⟨bF, 0, none⟩ = some (.int .i64 Q) ∧ w'.cell? ⟨bF, 1, none⟩ = some (.int .i64 v) ∧ w'.cell? ⟨bF, 2, none⟩ = some (.int .i64 o) ∧ w'.cell? ⟨gB, k, none⟩ = some (.int .i64 ((rdF Q v o (m0 + 1) 1 (remF Q (rotF (m0 + 1) X)) k : Nat) : Int)) ∧ w'.cell? ⟨gA, k, none⟩ = some (.int .i64 ((rdF Q v o (m0 + 1) 1 (remF Q X) k : Nat) : Int))) wz := ⟨keep_cell hrz t0, keep_cell hrz t1, keep_cell hrz t2, keep_cell hrz cb, keep_cell hrz ca⟩
          refine hK.out _ _ (fun _ => hS2) ?_
          clear hK K
          try simp only [List.getElem_toArray, List.getElem_cons_zero, List.getElem_cons_succ, Act.put, List.setIfInBounds_toArray, List.set_cons_zero, List.set_cons_succ]
          refine wpAnyS_end 1 14 (by kernel_rfl) (by decide) rfl ?_
          simp only [List.toList_toArray, List.drop_succ_cons, List.drop_zero]
          have HWZ := Lib.hid (hbw.out.trans (hrz.mono hbw.out.size))
          clear hS0 hS1 hS2 hry hrz hby hbz t0 t1 t2 ca cb HRT HMU
          go_wp2
          exact ⟨⟨k + 1, by omega, by go_num, HWZ⟩, by simp [intOf]; omega⟩
        · obtain rfl : k = m0 + 1 := by omega
          go_wp2
          go_ret
          exact ⟨rfl, HB5.out.trans ((HWa.out.trans (hbw.out.mono HWa.out.size)).mono HB5.out.size)⟩
    · rw [decide_eq_false hsm] at HSM
      clear hsm
      go_wp2_with fail
      refine HSM.out.mono ?_
      rintro z w4 ⟨rfl, hb4⟩
      have HB4 : Hid (Below w.heap.size w w4) := Lib.hid (HB3.out.trans (hb4.mono HB3.out.size))
      clear hb4 HSM p0 p1 p2 p3
      go_wp2_with fail
      refine (HWK.out _).mono ?_
      rintro z w5 ⟨rfl, hb5⟩
      have HB5 : Hid (Below w.heap.size w w5) := Lib.hid (HB4.out.trans (hb5.mono HB4.out.size))
      clear hb5
      go_wp2
      go_ret
      exact ⟨rfl, HB5.out⟩
  · have hdt : decide (checkE kind m r q m = 0) = false := decide_eq_false he
    rw [hdt]
    clear hdt he
    go_wp2_with fail
    refine (HWK.out _).mono ?_
    rintro z w3 ⟨rfl, hb3⟩
    have HB3 : Hid (Below w.heap.size w w3) := Lib.hid (HB2.out.trans (hb3.mono HB2.out.size))
    clear hb3
    go_wp2_with fail
    refine (HWK.out _).mono ?_
    rintro z w4 ⟨rfl, hb4⟩
    have HB4 : Hid (Below w.heap.size w w4) := Lib.hid (HB3.out.trans (hb4.mono HB3.out.size))
    clear hb4
    go_wp2
    go_ret
    exact ⟨rfl, HB4.out⟩
end Go.Proofs.Yteaimnemobnknaa
