/- planRef. -/
import Derived.Test.YtmgfaeineklccaaGreatMV1
set_option linter.unusedSimpArgs false
set_option linter.unusedVariables false
namespace Go.Proofs.YtmgfaeineklccaaGreat
open Go.RowKit Go.Lib

def PlanRef23 (kind n r : Int) (q : Fo) : Prop := q.count ≤ 549755813888 → ∀ (w : World) (A : Option Addr) (c : Nat), Kids w A 0 q →
  Calls Tryz.prog 43 #[plV kind n r A q.len c] w fun z w' => ∃ (B : Option Addr) (c' : Nat), z = .returned (plV kind n r B q.len c') ∧ KY w.heap.size none w' B q ∧ Below w.heap.size w w'

set_option maxRecDepth 100000 in
set_option maxHeartbeats 4000000 in
theorem planRef_all23 : ∀ fo : Fo, fo.all PlanRef23 := Fo.all_of fun kind n r q ih => by
  intro hc w A c hk
  have HK := Lib.hid hk
  have HIH := Lib.hid ih
  have HC := Lib.hid hc
  have hql : q.len ≤ 549755813888 := by have := len_count' q; omega
  clear hk ih hc
  go_enter Tryz.func43, Tryz.ntmps43
  go_wp2
  obtain ⟨W1, hW1⟩ : ∃ W1, W1 = ((w.alloc (.cells #[.int .i64 kind, .int .i64 n, .int .i64 r, .slice A q.len c] 27)).alloc (.cells #[.int .i64 0, .int .i64 0, .int .i64 0, .slice none 0 0] 30)).alloc (.cells #[.int .i64 kind, .int .i64 n, .int .i64 r, .slice none 0 0] 30) := ⟨_, rfl⟩
  have hb1 : Below w.heap.size w W1 := by rw [hW1]; exact (((Below.refl _ w).alloc (Nat.le_refl _) _).alloc (by simp) _).alloc (by simp; omega) _
  have hs1 : W1.heap.size = w.heap.size + 3 := by rw [hW1]; simp
  have hq1 : PlBox W1 (w.heap.size + 2) kind n r none 0 0 ∧ PlFree W1 (w.heap.size + 2) := by
    rw [hW1]
    have h1 := PlBox.new ((w.alloc (.cells #[.int .i64 kind, .int .i64 n, .int .i64 r, .slice A q.len c] 27)).alloc (.cells #[.int .i64 0, .int .i64 0, .int .i64 0, .slice none 0 0] 30)) kind n r none 0 0 30
    have h2 := PlFree.new ((w.alloc (.cells #[.int .i64 kind, .int .i64 n, .int .i64 r, .slice A q.len c] 27)).alloc (.cells #[.int .i64 0, .int .i64 0, .int .i64 0, .slice none 0 0] 30)) (.int .i64 kind) (.int .i64 n) (.int .i64 r) (.slice none 0 0) 30
    simp only [World.size_alloc] at h1 h2
    exact ⟨h1, h2⟩
  have hr1 : PlBox W1 (w.heap.size + 1) 0 0 0 none 0 0 ∧ PlFree W1 (w.heap.size + 1) := by
    rw [hW1]
    have h1 := (PlBox.new (w.alloc (.cells #[.int .i64 kind, .int .i64 n, .int .i64 r, .slice A q.len c] 27)) 0 0 0 none 0 0 30).below ((Below.refl _ _).alloc (Nat.le_refl _) (.cells #[.int .i64 kind, .int .i64 n, .int .i64 r, .slice none 0 0] 30))
    have h2 := (PlFree.new (w.alloc (.cells #[.int .i64 kind, .int .i64 n, .int .i64 r, .slice A q.len c] 27)) (.int .i64 0) (.int .i64 0) (.int .i64 0) (.slice none 0 0) 30).keep ((Below.refl _ _).alloc (Nat.le_refl _) (.cells #[.int .i64 kind, .int .i64 n, .int .i64 r, .slice none 0 0] 30)) (by simp)
    simp only [World.size_alloc] at h1 h2
    exact ⟨h1, h2⟩
  rw [← hW1]
  clear hW1
  have HB1 := Lib.hid hb1
  have HS1 := Lib.hid hs1
  have HQ1 := Lib.hid hq1
  have HR1 := Lib.hid hr1
  clear hb1 hs1 hq1 hr1
  go_loopw [16] (fun vi wr => ∃ (i : Nat) (B : Option Addr) (cb : Nat), i ≤ q.len ∧ vi = .int .i64 i ∧ Hid (RowP (w.heap.size + 3) 30 wr (.slice B i cb) (q.take i)) ∧ Hid (PlBox wr (w.heap.size + 2) kind n r B i cb ∧ PlFree wr (w.heap.size + 2)) ∧ Hid (PlBox wr (w.heap.size + 1) 0 0 0 none 0 0 ∧ PlFree wr (w.heap.size + 1)) ∧ Hid (w.heap.size + 3 ≤ wr.heap.size ∧ Below w.heap.size w wr)) (fun vi _ => q.len - (intOf vi).toNat)
  case atStart => exact ⟨0, none, 0, Nat.zero_le _, rfl, Lib.hid (RowP.nil _ _ _), HQ1, HR1, Lib.hid ⟨by rw [HS1.out]; exact Nat.le_refl _, HB1.out⟩⟩
  case round =>
    obtain ⟨i, B, cb, hi, rfl, hrow, hq, hr, hbw⟩ := hrel
    clear HQ1 HR1 HB1 HS1
    by_cases hlt : i < q.len
    · have hlti : (i : Int) < (q.len : Int) := by omega
      obtain ⟨k', n', r', q', rest, hd⟩ := drop_lt i q hlt
      obtain ⟨bA, oA, B', c', rfl, k0, k1, k2, k3, k5⟩ := HK.out.at' hd
      have j0 := keep_cell hbw.out.2 k0
      have j1 := keep_cell hbw.out.2 k1
      have j2 := keep_cell hbw.out.2 k2
      have j3 := keep_cell hbw.out.2 k3
      have HTS := Lib.hid (take_succ i q hd)
      have HTL := Lib.hid (take_len i q (by omega))
      have hq'c : q'.count ≤ 549755813888 := by
        have h1 := count_kid hd
        have h2 := upto_all q (i + 1)
        have := HC.out
        omega
      have HE := Lib.hid (fun w' h => Fo.all_at HIH.out hd hq'c w' B' c' h)
      have HKB := Lib.hid (k5.below hbw.out.2)
      have bs := bs_rplan
      clear k0 k1 k2 k3 k5 hd hq'c
      go_upto_region 5 with (fail)
      have hbk := PlBox.new wr k' n' r' B' q'.len c' 27
      have hbB : Below wr.heap.size wr (wr.alloc (.cells #[.int .i64 k', .int .i64 n', .int .i64 r', .slice B' q'.len c'] 27)) := (Below.refl _ wr).alloc (Nat.le_refl _) _
      obtain ⟨Wk, hWk⟩ : ∃ Wk, Wk = wr.alloc (.cells #[.int .i64 k', .int .i64 n', .int .i64 r', .slice B' q'.len c'] 27) := ⟨_, rfl⟩
      rw [← hWk] at hbk hbB ⊢
      have HBK : Hid (PlBox Wk wr.heap.size k' n' r' B' q'.len c' ∧ PlBox Wk (w.heap.size + 2) kind n r B i cb) := Lib.hid ⟨hbk, hq.out.1.below hbB⟩
      have HBB := Lib.hid hbB
      obtain ⟨bK, hbK⟩ : ∃ bK, wr.heap.size = bK := ⟨_, rfl⟩
      rw [hbK] at HBK ⊢
      clear hWk hbk hbB j0 j1 j2 j3 hbK
      refine wp_region_S (fun w' => w'.cell? ⟨bK, 0, none⟩ = some (.int .i64 k') ∧ w'.cell? ⟨bK, 1, none⟩ = some (.int .i64 n') ∧ w'.cell? ⟨bK, 2, none⟩ = some (.int .i64 r') ∧ w'.cell? ⟨bK, 3, none⟩ = some (.slice B' q'.len c') ∧ w'.cell? ⟨w.heap.size + 2, 3, none⟩ = some (.slice B i cb)) 5 (by kernel_rfl) ?_
      have hS0 := (⟨HBK.out.1.1, HBK.out.1.2.1, HBK.out.1.2.2.1, HBK.out.1.2.2.2, HBK.out.2.2.2.2⟩ : (fun w' => w'.cell? ⟨bK, 0, none⟩ = some (.int .i64 k') ∧ w'.cell? ⟨bK, 1, none⟩ = some (.int .i64 n') ∧ w'.cell? ⟨bK, 2, none⟩ = some (.int .i64 r') ∧ w'.cell? ⟨bK, 3, none⟩ = some (.slice B' q'.len c') ∧ w'.cell? ⟨w.heap.size + 2, 3, none⟩ = some (.slice B i cb)) Wk.drew)
      refine wpAnyS_take (i := 0) (v := ?_) (by kernel_rfl) rfl (fun _ _ _ h => h) rfl hS0 (fun w hSw => by (try dsimp only at hSw); go_simp; try with_reducible rfl) ?_
      try simp only [List.getElem_toArray, List.getElem_cons_zero, List.getElem_cons_succ, Act.put, List.setIfInBounds_toArray, List.set_cons_zero, List.set_cons_succ]
      refine wpAnyS_take (i := 1) (v := ?_) (by kernel_rfl) rfl (fun _ _ _ h => h) rfl hS0 (fun w hSw => by (try dsimp only at hSw); go_simp; try with_reducible rfl) ?_
      try simp only [List.getElem_toArray, List.getElem_cons_zero, List.getElem_cons_succ, Act.put, List.setIfInBounds_toArray, List.set_cons_zero, List.set_cons_succ]
      refine wpAnyS_take (i := 2) (v := ?_) (by kernel_rfl) rfl (fun _ _ _ h => h) rfl hS0 (fun w hSw => by (try dsimp only at hSw); go_simp; try with_reducible rfl) ?_
      try simp only [List.getElem_toArray, List.getElem_cons_zero, List.getElem_cons_succ, Act.put, List.setIfInBounds_toArray, List.set_cons_zero, List.set_cons_succ]
      refine wpAnyS_one (i := 3) (by kernel_rfl) rfl rfl (fun K hK => ?_)
      go_simp
      refine (HE.out _ (HKB.out.below (HBB.out.trans (Below.refl _ Wk).drew))).mono ?_
      rintro z w3 ⟨Bn, cn, rfl, hky, hb3⟩
      have HKY := Lib.hid hky
      have HB3 : Hid (Below Wk.heap.size Wk w3) := Lib.hid ((Below.refl _ Wk).drew.trans hb3)
      have hS1 : (fun w' => w'.cell? ⟨bK, 0, none⟩ = some (.int .i64 k') ∧ w'.cell? ⟨bK, 1, none⟩ = some (.int .i64 n') ∧ w'.cell? ⟨bK, 2, none⟩ = some (.int .i64 r') ∧ w'.cell? ⟨bK, 3, none⟩ = some (.slice B' q'.len c') ∧ w'.cell? ⟨w.heap.size + 2, 3, none⟩ = some (.slice B i cb)) w3 := ⟨keep_cell HB3.out hS0.1, keep_cell HB3.out hS0.2.1, keep_cell HB3.out hS0.2.2.1, keep_cell HB3.out hS0.2.2.2.1, keep_cell HB3.out hS0.2.2.2.2⟩
      clear hky hb3
      refine hK.out _ _ (fun _ => hS1) ?_
      clear hK K
      try simp only [List.getElem_toArray, List.getElem_cons_zero, List.getElem_cons_succ, Act.put, List.setIfInBounds_toArray, List.set_cons_zero, List.set_cons_succ]
      refine wpAnyS_one (i := 4) (by kernel_rfl) rfl rfl (fun K hK => ?_)
      go_simp
      obtain ⟨w4, hw4⟩ : ∃ w4, w4 = w3.alloc (.cells #[.int .i64 k', .int .i64 n', .int .i64 r', .slice Bn q'.len cn] 30) := ⟨_, rfl⟩
      have hbn : Below w3.heap.size w3 w4 := by rw [hw4]; exact (Below.refl _ w3).alloc (Nat.le_refl _) _
      have HNEW : Hid (∀ j u, [Value.int .i64 k', .int .i64 n', .int .i64 r', .slice Bn q'.len cn][j]? = some u → w4.cell? ⟨w3.heap.size, j, none⟩ = some u) := Lib.hid (by rw [hw4]; exact cells_four _ _ _ _ _ _ _ rfl)
      rw [← hw4]
      have HKY4 := Lib.hid (HKY.out.below hbn)
      have HB4 : Hid (Below Wk.heap.size Wk w4) := Lib.hid (HB3.out.trans (hbn.mono HB3.out.size))
      have hS2 : (fun w' => w'.cell? ⟨bK, 0, none⟩ = some (.int .i64 k') ∧ w'.cell? ⟨bK, 1, none⟩ = some (.int .i64 n') ∧ w'.cell? ⟨bK, 2, none⟩ = some (.int .i64 r') ∧ w'.cell? ⟨bK, 3, none⟩ = some (.slice B' q'.len c') ∧ w'.cell? ⟨w.heap.size + 2, 3, none⟩ = some (.slice B i cb)) w4 := ⟨keep_cell hbn hS1.1, keep_cell hbn hS1.2.1, keep_cell hbn hS1.2.2.1, keep_cell hbn hS1.2.2.2.1, keep_cell hbn hS1.2.2.2.2⟩
      have HBN := Lib.hid hbn
      clear hbn hw4
      refine hK.out _ _ (fun _ => hS2) ?_
      clear hK K
      try simp only [List.getElem_toArray, List.getElem_cons_zero, List.getElem_cons_succ, Act.put, List.setIfInBounds_toArray, List.set_cons_zero, List.set_cons_succ]
      refine wpAnyS_end 3 5 (by kernel_rfl) (by decide) rfl ?_
      simp only [List.toList_toArray, List.drop_succ_cons, List.drop_zero]
      have HB5 : Hid (Below wr.heap.size wr w4) := Lib.hid (HBB.out.trans (HB4.out.mono HBB.out.size))
      obtain ⟨xs, hO, hRK⟩ := hrow.out.below HB5.out
      have HRK := Lib.hid hRK
      have HRO := Lib.hid hO
      have HT4 : Hid (∀ k, k < w.heap.size + 3 → (Value.slice B i cb).ownBlock ≠ some k) := Lib.hid (fun k hk e => by have := (hrow.out.lt k e).1; omega)
      have HQ4 : Hid (PlBox w4 (w.heap.size + 2) kind n r B i cb ∧ PlFree w4 (w.heap.size + 2)) := Lib.hid ⟨hq.out.1.below HB5.out, hq.out.2.keep HB5.out (by have := hbw.out.1; omega)⟩
      have HR4 : Hid (PlBox w4 (w.heap.size + 1) 0 0 0 none 0 0 ∧ PlFree w4 (w.heap.size + 1)) := Lib.hid ⟨hr.out.1.below HB5.out, hr.out.2.keep HB5.out (by have := hbw.out.1; omega)⟩
      have HB6 : Hid (w.heap.size + 3 ≤ w4.heap.size ∧ Below w.heap.size w w4) := Lib.hid ⟨by have := hbw.out.1; have := HB5.out.size; omega, hbw.out.2.trans (HB5.out.mono (by have := hbw.out.1; omega))⟩
      have HKQ : Hid (KY (w.heap.size + 3) (Value.slice B i cb).ownBlock w4 Bn q') := Lib.hid ((HKY4.out.low (fun k e => by have := (hrow.out.lt k e).2; have := HBB.out.size; show k < Wk.heap.size; omega)).mono (by have := hbw.out.1; have := HBB.out.size; show w.heap.size + 3 ≤ Wk.heap.size; omega))
      rw [HTL.out] at HRO
      have hi40 : i + 1 ≤ 1099511627776 := by omega
      have hs4 := HB6.out.1
      clear hO hRK hrow hS2 hS1 hS0 HBK HKY4 HKY HB3 HB4 HBB hq hr hbw HB5 HKB HE
      go_wp2_with (at_builtin; refine wpList_appL rfl _ _ 28 30 rfl 4 48 (.agg #[.int .i64 0, .int .i64 0, .int .i64 0, .slice none 0 0]) Tryz.underlying28 info_rplan rfl (by omega) (by omega) (w.heap.size + 3) (.slice B i cb) i xs rfl HRO.out _ _ [.int .i64 k', .int .i64 n', .int .i64 r', .slice Bn q'.len cn] rfl rfl HNEW.out (one_four _ _ _ _ _ _) hi40 hs4 ?_; intro g2 cap2 w5 hO2 hG2 hL2; obtain ⟨a0, a1, a2, a3⟩ := HQ4.out.1.grown hG2.out (HT4.out _ (by omega)); have hf5 := (HQ4.out.2.grown hG2.out (by omega) (HT4.out _ (by omega))) 3 (by omega))
      have hRN := RowP.snoc HRK.out HKQ.out (by rw [HTL.out]; exact hO2.out) hG2.out hL2.out
      rw [HTL.out, ← HTS.out] at hRN
      have HRN := Lib.hid (hRN.set (b := w.heap.size + 2) (o := 3) (.slice (some ⟨g2, 0, none⟩) (i + 1) cap2) (by omega))
      have HQN : Hid (PlBox (w5.setCell ⟨w.heap.size + 2, 3, none⟩ (.slice (some ⟨g2, 0, none⟩) (i + 1) cap2)) (w.heap.size + 2) kind n r (some ⟨g2, 0, none⟩) (i + 1) cap2 ∧ PlFree (w5.setCell ⟨w.heap.size + 2, 3, none⟩ (.slice (some ⟨g2, 0, none⟩) (i + 1) cap2)) (w.heap.size + 2)) := Lib.hid ⟨PlBox.kid ⟨a0, a1, a2, a3⟩ _ _ _, (HQ4.out.2.grown hG2.out (by omega) (HT4.out _ (by omega))).set _ _⟩
      have HRR : Hid (PlBox (w5.setCell ⟨w.heap.size + 2, 3, none⟩ (.slice (some ⟨g2, 0, none⟩) (i + 1) cap2)) (w.heap.size + 1) 0 0 0 none 0 0 ∧ PlFree (w5.setCell ⟨w.heap.size + 2, 3, none⟩ (.slice (some ⟨g2, 0, none⟩) (i + 1) cap2)) (w.heap.size + 1)) := Lib.hid ⟨(HR4.out.1.grown hG2.out (HT4.out _ (by omega))).other _ (by omega), (HR4.out.2.grown hG2.out (by omega) (HT4.out _ (by omega))).set _ _⟩
      have HBN2 : Hid (w.heap.size + 3 ≤ (w5.setCell ⟨w.heap.size + 2, 3, none⟩ (.slice (some ⟨g2, 0, none⟩) (i + 1) cap2)).heap.size ∧ Below w.heap.size w (w5.setCell ⟨w.heap.size + 2, 3, none⟩ (.slice (some ⟨g2, 0, none⟩) (i + 1) cap2))) := Lib.hid ⟨by have := hG2.out.size; simp [World.setCell]; omega, (HB6.out.2.grown hG2.out (by omega) (fun k e => by
        rcases Nat.lt_or_ge k (w.heap.size + 3) with h | h
        · exact absurd e (HT4.out k h)
        · omega)).setCell (p := ⟨w.heap.size + 2, 3, none⟩) (by show w.heap.size ≤ w.heap.size + 2; omega) _⟩
      clear hRN hO2 hG2 hL2 a0 a1 a2 a3 hf5 HRK HRO HQ4 HR4 HKQ HT4 HB6
      exact ⟨⟨i + 1, _, _, by omega, by first | rfl | go_num, HRN, HQN, HRR, HBN2⟩, by simp [intOf]; omega⟩
    · obtain rfl : i = q.len := by omega
      have HRW := Lib.hid hrow.out
      rw [take_all _ _ (Nat.le_refl _)] at HRW
      obtain ⟨A2, c2, hA2, hKY⟩ := HRW.out.form
      have hA3 : B = A2 ∧ cb = c2 := by
        injection hA2 with h1 h2 h3
        exact ⟨h1, h3⟩
      obtain ⟨rfl, rfl⟩ := hA3
      obtain ⟨q0, q1, q2, q3⟩ := hq.out.1
      obtain ⟨r0, r1, r2, r3⟩ := hr.out.1
      have hf0 := hr.out.2 0 (by omega)
      have hf1 := hr.out.2 1 (by omega)
      have hf2 := hr.out.2 2 (by omega)
      have hf3 := hr.out.2 3 (by omega)
      have HKY := Lib.hid (hKY.mono (show w.heap.size ≤ w.heap.size + 3 by omega))
      have HKZ := Lib.hid hKY
      clear hKY hA2 HRW hrow
      go_wp2
      obtain ⟨s0, s1, s2, s3⟩ := hr.out.1.put kind n r B q.len cb
      refine bodyPost_ret (v := plV kind n r B q.len cb) (by simp [results, Tryz.results43, go_sem, s0, s1, s2, s3]) rfl ⟨B, cb, rfl, ?_, below_four hbw.out.2 (by omega) _ _ _ _⟩
      exact (HKZ.out.set4 _ _ _ _ (show w.heap.size + 1 < w.heap.size + 3 by omega)).mono (by omega)

end Go.Proofs.YtmgfaeineklccaaGreat
