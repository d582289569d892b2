/- The walk of RunRefuses. -/
import Derived.Test.YteaimnemobnknaaME1
import Derived.Test.YteaimnemobnknaaE8L18
set_option linter.unusedSimpArgs false
set_option linter.unusedVariables false
namespace Go.Proofs.Yteaimnemobnknaa
open Go.RowKit Go.Lib

theorem run_zero {kind n r : Int} {q : Fo} {l s : Int} (h : runE kind n r q l s = 0) : checkE kind n r q n = 0 ∧ l = n ∧ (s = 1 ∨ s = -1) := by
  unfold runE at h
  by_cases h1 : checkE kind n r q n ≠ 0
  · rw [if_pos h1] at h; exact absurd h h1
  rw [if_neg h1] at h
  by_cases h2 : l ≠ n
  · rw [if_pos h2] at h; exact absurd h (by decide)
  rw [if_neg h2] at h
  by_cases h3 : s ≠ 1 ∧ s ≠ -1
  · rw [if_pos h3] at h; exact absurd h (by decide)
  exact ⟨Decidable.not_not.1 h1, Decidable.not_not.1 h2, by omega⟩

set_option maxRecDepth 100000 in
set_option maxHeartbeats 8000000 in
theorem Refuses_any (Al : Option Addr) (nl cl : Nat) (f : Nat → Nat → Int) (a0 : Int) (b0 : -9223372036854775808 ≤ a0) (b1 : a0 ≤ 9223372036854775807) (s : Int) (d0 : -9223372036854775808 ≤ s) (d1 : s ≤ 9223372036854775807) (w : World) (hN : NodesAt w Al nl f) (hnl : nl ≤ 1125899906842624) :
    Calls Try.prog 3 #[.slice Al nl cl, .int .i64 a0, .int .i64 s] w (Ret w (.bool true)) := by
  have HBU := Lib.hid (build18 Al nl cl f w hN hnl)
  clear hN
  go_enter Try.func3, Try.ntmps3
  go_wp2_with fail
  refine HBU.out.mono ?_
  rintro z w1 ⟨k, n, r, q, B, c, B', c', rfl, hq, hk1, hk2, hb⟩
  have HQ := Lib.hid hq
  have KK1 := Lib.hid hk1
  have KL1 := Lib.hid hk2
  have BB1 := Lib.hid hb
  clear hq hk1 hk2 hb HBU
  go_upto_region 2 with (fail)
  obtain ⟨w2, hw2⟩ : ∃ w2, w2 = (w1.alloc (.cells #[.int .i64 k, .int .i64 n, .int .i64 r, .slice B q.len c] 26)).alloc (.cells #[.int .i64 k, .int .i64 n, .int .i64 r, .slice B' q.len c'] 29) := ⟨_, rfl⟩
  have hb2 : Below w1.heap.size w1 w2 := by rw [hw2]; exact ((Below.refl _ w1).alloc (Nat.le_refl _) _).alloc (by simp) _
  have hp2 : PlBox w2 w1.heap.size k n r B q.len c := by
    rw [hw2]
    exact (PlBox.new w1 _ _ _ _ _ _ _).below ((Below.refl _ _).alloc (Nat.le_refl _) _)
  have hq2 : PlBox w2 (w1.heap.size + 1) k n r B' q.len c' := by
    rw [hw2]
    have := PlBox.new (w1.alloc (.cells #[.int .i64 k, .int .i64 n, .int .i64 r, .slice B q.len c] 26)) k n r B' q.len c' 29
    simp only [World.size_alloc] at this
    exact this
  rw [← hw2]
  obtain ⟨bP, hbP⟩ : ∃ bP, w1.heap.size = bP := ⟨_, rfl⟩
  rw [hbP] at hp2 hq2 ⊢
  have PP2 := Lib.hid hp2
  have PL2 := Lib.hid hq2
  have KK2 := Lib.hid (KK1.out.below hb2)
  have KL2 := Lib.hid (KL1.out.below hb2)
  have BB2 : Hid (Below w.heap.size w w2) := Lib.hid (BB1.out.trans (hb2.mono BB1.out.size))
  clear hw2 hb2 hp2 hq2 hbP KK1 KL1 BB1
  go_cut [1] from 22 to 24 (fun s1 wx => ∃ m : Nat, m < 70 ∧ s1 = .int .i64 m ∧ w2 = wx)
  case first =>
    have h0 := Int.emod_nonneg a0 (show (70 : Int) ≠ 0 by omega)
    have h1 := Int.emod_lt_of_pos a0 (show (0 : Int) < 70 by omega)
    by_cases hneg : a0 ≤ 0
    · go_wp2_with fail
      go_meet
      exact ⟨0, by omega, rfl, rfl⟩
    · have ht : a0.tmod 70 = a0 % 70 := Int.tmod_eq_emod_of_nonneg (by omega)
      obtain ⟨x, hx⟩ : ∃ x, a0 % 70 = x := ⟨_, rfl⟩
      rw [hx] at h0 h1 ht
      clear hx
      go_wp2_with fail
      go_meet
      exact ⟨x.toNat, by omega, by rw [Int.toNat_of_nonneg (by omega)], rfl⟩
  case rest =>
  obtain ⟨m, hm, rfl, rfl⟩ := hcut
  apply_assumption
  go_upto_region 4 with (fail)
  obtain ⟨w3, hw3⟩ : ∃ w3, w3 = w2.alloc (.cells #[.int .i64 1009, .int .i64 1, .int .i64 1] 35) := ⟨_, rfl⟩
  have hb3 : Below w2.heap.size w2 w3 := by rw [hw3]; exact (Below.refl _ w2).alloc (Nat.le_refl _) _
  have ht3 := Tri.new w2 1009 1 1 35
  rw [← hw3] at ht3 ⊢
  obtain ⟨bR, hbR⟩ : ∃ bR, w2.heap.size = bR := ⟨_, rfl⟩
  rw [hbR] at ht3 ⊢
  have TR3 := Lib.hid ht3
  have PP3 := Lib.hid (PP2.out.below hb3)
  have PL3 := Lib.hid (PL2.out.below hb3)
  have KK3 := Lib.hid (KK2.out.below hb3)
  have KL3 := Lib.hid (KL2.out.below hb3)
  have BB3 : Hid (Below w.heap.size w w3) := Lib.hid (BB2.out.trans (hb3.mono BB2.out.size))
  have HMY := Lib.hid (May_any k n r q m s HQ.out w3 B' c' KL3.out)
  obtain ⟨E, hE⟩ : ∃ E, runE k n r q m s = E := ⟨_, rfl⟩
  rw [hE] at HMY
  have HEE := Lib.hid hE
  obtain ⟨l0, l1, l2, l3⟩ := PL3.out
  clear hw3 hb3 ht3 hbR PP2 PL2 KK2 KL2 BB2 hE
  go_wp2_with fail
  refine HMY.out.mono ?_
  rintro z w4 ⟨rfl, hb⟩
  have TR4 := Lib.hid (TR3.out.below hb)
  have PP4 := Lib.hid (PP3.out.below hb)
  have KK4 := Lib.hid (KK3.out.below hb)
  have BB4 : Hid (Below w.heap.size w w4) := Lib.hid (BB3.out.trans (hb.mono BB3.out.size))
  have HWK := Lib.hid (fun w => wakes18 w)
  have hmk := mk_int64 m (by omega)
  clear hb TR3 PP3 PL3 KK3 KL3 BB3 HMY l0 l1 l2 l3
  by_cases hE0 : E = 0
  case neg =>
    have hEb : (E == 0) = false := by simpa using hE0
    have HE : Hid (runE k n r q m s ≠ 0) := Lib.hid (by rw [HEE.out]; exact hE0)
    go_upto_region 8 with (fail)
    refine wp_region_S (fun w' => w'.cell? ⟨bR, 0, none⟩ = some (.int .i64 1009) ∧ w'.cell? ⟨bR, 1, none⟩ = some (.int .i64 1) ∧ w'.cell? ⟨bR, 2, none⟩ = some (.int .i64 1) ∧ w'.cell? ⟨bP, 0, none⟩ = some (.int .i64 k) ∧ w'.cell? ⟨bP, 1, none⟩ = some (.int .i64 n) ∧ w'.cell? ⟨bP, 2, none⟩ = some (.int .i64 r) ∧ w'.cell? ⟨bP, 3, none⟩ = some (.slice B q.len c)) 11 (by kernel_rfl) ?_
    have hbd := (Below.refl w4.heap.size w4).drew
    have TR4d := Lib.hid (TR4.out.below hbd)
    have PP4d := Lib.hid (PP4.out.below hbd)
    have KK4d := Lib.hid (KK4.out.below hbd)
    have BB4d : Hid (Below w.heap.size w w4.drew) := Lib.hid (BB4.out.trans (hbd.mono BB4.out.size))
    generalize w4.drew = w4d at *
    have hS0 := (⟨TR4d.out.1, TR4d.out.2.1, TR4d.out.2.2, PP4d.out.1, PP4d.out.2.1, PP4d.out.2.2.1, PP4d.out.2.2.2⟩ : (fun w' => w'.cell? ⟨bR, 0, none⟩ = some (.int .i64 1009) ∧ w'.cell? ⟨bR, 1, none⟩ = some (.int .i64 1) ∧ w'.cell? ⟨bR, 2, none⟩ = some (.int .i64 1) ∧ w'.cell? ⟨bP, 0, none⟩ = some (.int .i64 k) ∧ w'.cell? ⟨bP, 1, none⟩ = some (.int .i64 n) ∧ w'.cell? ⟨bP, 2, none⟩ = some (.int .i64 r) ∧ w'.cell? ⟨bP, 3, none⟩ = some (.slice B q.len c)) w4d)
    refine wpAnyS_take (i := 0) (v := ?_) (by kernel_rfl) rfl (fun _ _ _ h => h) rfl hS0 (fun w hSw => by (try dsimp only at hSw); go_simp; try with_reducible rfl) ?_
    try simp only [List.getElem_toArray, List.getElem_cons_zero, List.getElem_cons_succ, Act.put, List.setIfInBounds_toArray, List.set_cons_zero, List.set_cons_succ]
    refine wpAnyS_take (i := 1) (v := ?_) (by kernel_rfl) rfl (fun _ _ _ h => h) rfl hS0 (fun w hSw => by (try dsimp only at hSw); go_simp; try with_reducible rfl) ?_
    try simp only [List.getElem_toArray, List.getElem_cons_zero, List.getElem_cons_succ, Act.put, List.setIfInBounds_toArray, List.set_cons_zero, List.set_cons_succ]
    refine wpAnyS_take (i := 2) (v := ?_) (by kernel_rfl) rfl (fun _ _ _ h => h) rfl hS0 (fun w hSw => by (try dsimp only at hSw); go_simp; try with_reducible rfl) ?_
    try simp only [List.getElem_toArray, List.getElem_cons_zero, List.getElem_cons_succ, Act.put, List.setIfInBounds_toArray, List.set_cons_zero, List.set_cons_succ]
    refine wpAnyS_take (i := 3) (v := ?_) (by kernel_rfl) rfl (fun _ _ _ h => h) rfl hS0 (fun w hSw => by (try dsimp only at hSw); go_simp; try with_reducible rfl) ?_
    try simp only [List.getElem_toArray, List.getElem_cons_zero, List.getElem_cons_succ, Act.put, List.setIfInBounds_toArray, List.set_cons_zero, List.set_cons_succ]
    refine wpAnyS_take (i := 5) (v := ?_) (by kernel_rfl) rfl (fun _ _ _ h => h) rfl hS0 (fun w hSw => by (try dsimp only at hSw); go_simp; try with_reducible rfl) ?_
    try simp only [List.getElem_toArray, List.getElem_cons_zero, List.getElem_cons_succ, Act.put, List.setIfInBounds_toArray, List.set_cons_zero, List.set_cons_succ]
    refine wpAnyS_one (i := 4) (by kernel_rfl) rfl rfl (fun K hK => ?_)
    go_simp
    obtain ⟨w4m, hW⟩ : ∃ w4m, w4m = w4d.alloc (.cells (zs m) 2) := ⟨_, rfl⟩
    have hb : Below w4d.heap.size w4d w4m := by rw [hW]; exact (Below.refl _ w4d).alloc (Nat.le_refl _) _
    have hz := zs_row m w4d 2
    rw [← hW] at hz ⊢
    have TR4m := Lib.hid (TR4d.out.below hb)
    have PP4m := Lib.hid (PP4d.out.below hb)
    have KK4m := Lib.hid (KK4d.out.below hb)
    have BB4m : Hid (Below w.heap.size w w4m) := Lib.hid (BB4d.out.trans (hb.mono BB4d.out.size))
    have HZ := Lib.hid hz.ints
    have hS1 := (⟨TR4m.out.1, TR4m.out.2.1, TR4m.out.2.2, PP4m.out.1, PP4m.out.2.1, PP4m.out.2.2.1, PP4m.out.2.2.2⟩ : (fun w' => w'.cell? ⟨bR, 0, none⟩ = some (.int .i64 1009) ∧ w'.cell? ⟨bR, 1, none⟩ = some (.int .i64 1) ∧ w'.cell? ⟨bR, 2, none⟩ = some (.int .i64 1) ∧ w'.cell? ⟨bP, 0, none⟩ = some (.int .i64 k) ∧ w'.cell? ⟨bP, 1, none⟩ = some (.int .i64 n) ∧ w'.cell? ⟨bP, 2, none⟩ = some (.int .i64 r) ∧ w'.cell? ⟨bP, 3, none⟩ = some (.slice B q.len c)) w4m)
    clear hW hb hz
    refine hK.out _ _ (fun _ => hS1) ?_
    clear hK K
    try simp only [List.getElem_toArray, List.getElem_cons_zero, List.getElem_cons_succ, Act.put, List.setIfInBounds_toArray, List.set_cons_zero, List.set_cons_succ]
    refine wpAnyS_one (i := 6) (by kernel_rfl) rfl rfl (fun K hK => ?_)
    go_simp
    refine (Run_no _ k n r q HQ.out s m HE.out w4m B c (some ⟨w4d.heap.size, 0, none⟩) m KK4m.out).mono ?_
    rintro z w4c ⟨rfl, hb⟩
    have TR4c := Lib.hid (TR4m.out.below hb)
    have PP4c := Lib.hid (PP4m.out.below hb)
    have KK4c := Lib.hid (KK4m.out.below hb)
    have BB4c : Hid (Below w.heap.size w w4c) := Lib.hid (BB4m.out.trans (hb.mono BB4m.out.size))
    have hS2 := (⟨TR4c.out.1, TR4c.out.2.1, TR4c.out.2.2, PP4c.out.1, PP4c.out.2.1, PP4c.out.2.2.1, PP4c.out.2.2.2⟩ : (fun w' => w'.cell? ⟨bR, 0, none⟩ = some (.int .i64 1009) ∧ w'.cell? ⟨bR, 1, none⟩ = some (.int .i64 1) ∧ w'.cell? ⟨bR, 2, none⟩ = some (.int .i64 1) ∧ w'.cell? ⟨bP, 0, none⟩ = some (.int .i64 k) ∧ w'.cell? ⟨bP, 1, none⟩ = some (.int .i64 n) ∧ w'.cell? ⟨bP, 2, none⟩ = some (.int .i64 r) ∧ w'.cell? ⟨bP, 3, none⟩ = some (.slice B q.len c)) w4c)
    clear hb
    refine hK.out _ _ (fun _ => hS2) ?_
    clear hK K
    try simp only [List.getElem_toArray, List.getElem_cons_zero, List.getElem_cons_succ, Act.put, List.setIfInBounds_toArray, List.set_cons_zero, List.set_cons_succ]
    refine wpAnyS_take (i := 7) (v := ?_) (by kernel_rfl) rfl (fun _ _ _ h => h) rfl hS2 (fun w hSw => by (try dsimp only at hSw); go_simp; try with_reducible rfl) ?_
    try simp only [List.getElem_toArray, List.getElem_cons_zero, List.getElem_cons_succ, Act.put, List.setIfInBounds_toArray, List.set_cons_zero, List.set_cons_succ]
    refine wpAnyS_take (i := 8) (v := ?_) (by kernel_rfl) rfl (fun _ _ _ h => h) rfl hS2 (fun w hSw => by (try dsimp only at hSw); go_simp; try with_reducible rfl) ?_
    try simp only [List.getElem_toArray, List.getElem_cons_zero, List.getElem_cons_succ, Act.put, List.setIfInBounds_toArray, List.set_cons_zero, List.set_cons_succ]
    refine wpAnyS_take (i := 9) (v := ?_) (by kernel_rfl) rfl (fun _ _ _ h => h) rfl hS2 (fun w hSw => by (try dsimp only at hSw); go_simp; try with_reducible rfl) ?_
    try simp only [List.getElem_toArray, List.getElem_cons_zero, List.getElem_cons_succ, Act.put, List.setIfInBounds_toArray, List.set_cons_zero, List.set_cons_succ]
    refine wpAnyS_take (i := 10) (v := ?_) (by kernel_rfl) rfl (fun _ _ _ h => h) rfl hS2 (fun w hSw => by (try dsimp only at hSw); go_simp; try with_reducible rfl) ?_
    try simp only [List.getElem_toArray, List.getElem_cons_zero, List.getElem_cons_succ, Act.put, List.setIfInBounds_toArray, List.set_cons_zero, List.set_cons_succ]
    refine wpAnyS_end 1 11 (by kernel_rfl) (by decide) rfl ?_
    simp only [List.toList_toArray, List.drop_succ_cons, List.drop_zero]
    clear hS0 hS1 hS2
    go_upto_region 9 with (fail)
    refine wp_region_S (fun w' => w'.cell? ⟨bR, 0, none⟩ = some (.int .i64 1009) ∧ w'.cell? ⟨bR, 1, none⟩ = some (.int .i64 1) ∧ w'.cell? ⟨bR, 2, none⟩ = some (.int .i64 1) ∧ w'.cell? ⟨bP, 0, none⟩ = some (.int .i64 k) ∧ w'.cell? ⟨bP, 1, none⟩ = some (.int .i64 n) ∧ w'.cell? ⟨bP, 2, none⟩ = some (.int .i64 r) ∧ w'.cell? ⟨bP, 3, none⟩ = some (.slice B q.len c)) 11 (by kernel_rfl) ?_
    have hbd := (Below.refl w4c.heap.size w4c).drew
    have TR4cd := Lib.hid (TR4c.out.below hbd)
    have PP4cd := Lib.hid (PP4c.out.below hbd)
    have KK4cd := Lib.hid (KK4c.out.below hbd)
    have BB4cd : Hid (Below w.heap.size w w4c.drew) := Lib.hid (BB4c.out.trans (hbd.mono BB4c.out.size))
    generalize w4c.drew = w4cd at *
    have hS0 := (⟨TR4cd.out.1, TR4cd.out.2.1, TR4cd.out.2.2, PP4cd.out.1, PP4cd.out.2.1, PP4cd.out.2.2.1, PP4cd.out.2.2.2⟩ : (fun w' => w'.cell? ⟨bR, 0, none⟩ = some (.int .i64 1009) ∧ w'.cell? ⟨bR, 1, none⟩ = some (.int .i64 1) ∧ w'.cell? ⟨bR, 2, none⟩ = some (.int .i64 1) ∧ w'.cell? ⟨bP, 0, none⟩ = some (.int .i64 k) ∧ w'.cell? ⟨bP, 1, none⟩ = some (.int .i64 n) ∧ w'.cell? ⟨bP, 2, none⟩ = some (.int .i64 r) ∧ w'.cell? ⟨bP, 3, none⟩ = some (.slice B q.len c)) w4cd)
    refine wpAnyS_take (i := 0) (v := ?_) (by kernel_rfl) rfl (fun _ _ _ h => h) rfl hS0 (fun w hSw => by (try dsimp only at hSw); go_simp; try with_reducible rfl) ?_
    try simp only [List.getElem_toArray, List.getElem_cons_zero, List.getElem_cons_succ, Act.put, List.setIfInBounds_toArray, List.set_cons_zero, List.set_cons_succ]
    refine wpAnyS_take (i := 1) (v := ?_) (by kernel_rfl) rfl (fun _ _ _ h => h) rfl hS0 (fun w hSw => by (try dsimp only at hSw); go_simp; try with_reducible rfl) ?_
    try simp only [List.getElem_toArray, List.getElem_cons_zero, List.getElem_cons_succ, Act.put, List.setIfInBounds_toArray, List.set_cons_zero, List.set_cons_succ]
    refine wpAnyS_take (i := 2) (v := ?_) (by kernel_rfl) rfl (fun _ _ _ h => h) rfl hS0 (fun w hSw => by (try dsimp only at hSw); go_simp; try with_reducible rfl) ?_
    try simp only [List.getElem_toArray, List.getElem_cons_zero, List.getElem_cons_succ, Act.put, List.setIfInBounds_toArray, List.set_cons_zero, List.set_cons_succ]
    refine wpAnyS_take (i := 3) (v := ?_) (by kernel_rfl) rfl (fun _ _ _ h => h) rfl hS0 (fun w hSw => by (try dsimp only at hSw); go_simp; try with_reducible rfl) ?_
    try simp only [List.getElem_toArray, List.getElem_cons_zero, List.getElem_cons_succ, Act.put, List.setIfInBounds_toArray, List.set_cons_zero, List.set_cons_succ]
    refine wpAnyS_take (i := 5) (v := ?_) (by kernel_rfl) rfl (fun _ _ _ h => h) rfl hS0 (fun w hSw => by (try dsimp only at hSw); go_simp; try with_reducible rfl) ?_
    try simp only [List.getElem_toArray, List.getElem_cons_zero, List.getElem_cons_succ, Act.put, List.setIfInBounds_toArray, List.set_cons_zero, List.set_cons_succ]
    refine wpAnyS_one (i := 4) (by kernel_rfl) rfl rfl (fun K hK => ?_)
    go_simp
    obtain ⟨w4cm, hW⟩ : ∃ w4cm, w4cm = w4cd.alloc (.cells (zs m) 2) := ⟨_, rfl⟩
    have hb : Below w4cd.heap.size w4cd w4cm := by rw [hW]; exact (Below.refl _ w4cd).alloc (Nat.le_refl _) _
    have hz := zs_row m w4cd 2
    rw [← hW] at hz ⊢
    have TR4cm := Lib.hid (TR4cd.out.below hb)
    have PP4cm := Lib.hid (PP4cd.out.below hb)
    have KK4cm := Lib.hid (KK4cd.out.below hb)
    have BB4cm : Hid (Below w.heap.size w w4cm) := Lib.hid (BB4cd.out.trans (hb.mono BB4cd.out.size))
    have HZ := Lib.hid hz.ints
    have hS1 := (⟨TR4cm.out.1, TR4cm.out.2.1, TR4cm.out.2.2, PP4cm.out.1, PP4cm.out.2.1, PP4cm.out.2.2.1, PP4cm.out.2.2.2⟩ : (fun w' => w'.cell? ⟨bR, 0, none⟩ = some (.int .i64 1009) ∧ w'.cell? ⟨bR, 1, none⟩ = some (.int .i64 1) ∧ w'.cell? ⟨bR, 2, none⟩ = some (.int .i64 1) ∧ w'.cell? ⟨bP, 0, none⟩ = some (.int .i64 k) ∧ w'.cell? ⟨bP, 1, none⟩ = some (.int .i64 n) ∧ w'.cell? ⟨bP, 2, none⟩ = some (.int .i64 r) ∧ w'.cell? ⟨bP, 3, none⟩ = some (.slice B q.len c)) w4cm)
    clear hW hb hz
    refine hK.out _ _ (fun _ => hS1) ?_
    clear hK K
    try simp only [List.getElem_toArray, List.getElem_cons_zero, List.getElem_cons_succ, Act.put, List.setIfInBounds_toArray, List.set_cons_zero, List.set_cons_succ]
    refine wpAnyS_one (i := 6) (by kernel_rfl) rfl rfl (fun K hK => ?_)
    go_simp
    refine (Back_no _ k n r q HQ.out s m HE.out w4cm B c (some ⟨w4cd.heap.size, 0, none⟩) m KK4cm.out).mono ?_
    rintro z w4cc ⟨rfl, hb⟩
    have TR4cc := Lib.hid (TR4cm.out.below hb)
    have PP4cc := Lib.hid (PP4cm.out.below hb)
    have KK4cc := Lib.hid (KK4cm.out.below hb)
    have BB4cc : Hid (Below w.heap.size w w4cc) := Lib.hid (BB4cm.out.trans (hb.mono BB4cm.out.size))
    have hS2 := (⟨TR4cc.out.1, TR4cc.out.2.1, TR4cc.out.2.2, PP4cc.out.1, PP4cc.out.2.1, PP4cc.out.2.2.1, PP4cc.out.2.2.2⟩ : (fun w' => w'.cell? ⟨bR, 0, none⟩ = some (.int .i64 1009) ∧ w'.cell? ⟨bR, 1, none⟩ = some (.int .i64 1) ∧ w'.cell? ⟨bR, 2, none⟩ = some (.int .i64 1) ∧ w'.cell? ⟨bP, 0, none⟩ = some (.int .i64 k) ∧ w'.cell? ⟨bP, 1, none⟩ = some (.int .i64 n) ∧ w'.cell? ⟨bP, 2, none⟩ = some (.int .i64 r) ∧ w'.cell? ⟨bP, 3, none⟩ = some (.slice B q.len c)) w4cc)
    clear hb
    refine hK.out _ _ (fun _ => hS2) ?_
    clear hK K
    try simp only [List.getElem_toArray, List.getElem_cons_zero, List.getElem_cons_succ, Act.put, List.setIfInBounds_toArray, List.set_cons_zero, List.set_cons_succ]
    refine wpAnyS_take (i := 7) (v := ?_) (by kernel_rfl) rfl (fun _ _ _ h => h) rfl hS2 (fun w hSw => by (try dsimp only at hSw); go_simp; try with_reducible rfl) ?_
    try simp only [List.getElem_toArray, List.getElem_cons_zero, List.getElem_cons_succ, Act.put, List.setIfInBounds_toArray, List.set_cons_zero, List.set_cons_succ]
    refine wpAnyS_take (i := 8) (v := ?_) (by kernel_rfl) rfl (fun _ _ _ h => h) rfl hS2 (fun w hSw => by (try dsimp only at hSw); go_simp; try with_reducible rfl) ?_
    try simp only [List.getElem_toArray, List.getElem_cons_zero, List.getElem_cons_succ, Act.put, List.setIfInBounds_toArray, List.set_cons_zero, List.set_cons_succ]
    refine wpAnyS_take (i := 9) (v := ?_) (by kernel_rfl) rfl (fun _ _ _ h => h) rfl hS2 (fun w hSw => by (try dsimp only at hSw); go_simp; try with_reducible rfl) ?_
    try simp only [List.getElem_toArray, List.getElem_cons_zero, List.getElem_cons_succ, Act.put, List.setIfInBounds_toArray, List.set_cons_zero, List.set_cons_succ]
    refine wpAnyS_take (i := 10) (v := ?_) (by kernel_rfl) rfl (fun _ _ _ h => h) rfl hS2 (fun w hSw => by (try dsimp only at hSw); go_simp; try with_reducible rfl) ?_
    try simp only [List.getElem_toArray, List.getElem_cons_zero, List.getElem_cons_succ, Act.put, List.setIfInBounds_toArray, List.set_cons_zero, List.set_cons_succ]
    refine wpAnyS_end 1 11 (by kernel_rfl) (by decide) rfl ?_
    simp only [List.toList_toArray, List.drop_succ_cons, List.drop_zero]
    clear hS0 hS1 hS2
    rw [HEE.out]
    go_wp2_with fail
    refine (HWK.out _).mono ?_
    rintro z w9 ⟨rfl, hb⟩
    have BB9 : Hid (Below w.heap.size w w9) := Lib.hid (BB4cc.out.trans (hb.mono BB4cc.out.size))
    clear hb
    go_wp2
    go_ret
    exact ⟨rfl, BB9.out⟩
  subst hE0
  obtain ⟨hck, hmn, hss⟩ := run_zero HEE.out
  obtain rfl : n = (m : Int) := hmn.symm
  have HFN : Hid (∀ (wm : World) (X : Option Addr), Kids wm B 0 q → IntsAt wm X m (fun _ => 0) → Calls Try.prog 16 #[.iface 35 (rgV 1009 1 1), plV k m r B q.len c, .slice X m m, .int .i64 s] wm fun z w' => ∃ gy, z = .returned (.tuple #[.slice (some ⟨gy, 0, none⟩) m m, .int .i64 0]) ∧ Below wm.heap.size wm w') := Lib.hid (by
    intro wm X hk hx
    have hch : ChkC k m r q m 0 := by have := Check_any k m r q m HQ.out; rw [hck] at this; exact this
    have hpl := (plans_all (law_ok 1009 1 1 (by omega) (by omega) (by omega) (by omega)) (.cons k m r q .nil) (check_fine (B := 512) (by omega) hck (by omega)).1).1
    rw [show (m : Int).toNat = m from Int.toNat_natCast m] at hpl
    refine (Run_r (law_ok 1009 1 1 (by omega) (by omega) (by omega) (by omega)) k r q m _ hpl hch s hss wm B c X m (fun _ => 0) hk hx (fun _ => ⟨by show (0 : Int) ≤ 0; decide, by show (0 : Int) < ((1009 : Nat) : Int); decide⟩) trivial).mono ?_
    rintro z w' ⟨g, rfl, -, -, hon⟩
    exact ⟨g, rfl, hon.fr⟩)
  have HRUN := HFN
  obtain ⟨p0, p1, p2, p3⟩ := PP4.out
  clear hmn hck hss HFN HEE
  have h70 : ¬ (70 : Int) < (m : Int) := by omega
  go_upto_region 11 with (fail)
  clear p0 p1 p2 p3
  refine wp_region_S (fun w' => w'.cell? ⟨bR, 0, none⟩ = some (.int .i64 1009) ∧ w'.cell? ⟨bR, 1, none⟩ = some (.int .i64 1) ∧ w'.cell? ⟨bR, 2, none⟩ = some (.int .i64 1) ∧ w'.cell? ⟨bP, 0, none⟩ = some (.int .i64 k) ∧ w'.cell? ⟨bP, 1, none⟩ = some (.int .i64 m) ∧ w'.cell? ⟨bP, 2, none⟩ = some (.int .i64 r) ∧ w'.cell? ⟨bP, 3, none⟩ = some (.slice B q.len c)) 11 (by kernel_rfl) ?_
  have hbd := (Below.refl w4.heap.size w4).drew
  have TR4d := Lib.hid (TR4.out.below hbd)
  have PP4d := Lib.hid (PP4.out.below hbd)
  have KK4d := Lib.hid (KK4.out.below hbd)
  have BB4d : Hid (Below w.heap.size w w4.drew) := Lib.hid (BB4.out.trans (hbd.mono BB4.out.size))
  generalize w4.drew = w4d at *
  have hS0 := (⟨TR4d.out.1, TR4d.out.2.1, TR4d.out.2.2, PP4d.out.1, PP4d.out.2.1, PP4d.out.2.2.1, PP4d.out.2.2.2⟩ : (fun w' => w'.cell? ⟨bR, 0, none⟩ = some (.int .i64 1009) ∧ w'.cell? ⟨bR, 1, none⟩ = some (.int .i64 1) ∧ w'.cell? ⟨bR, 2, none⟩ = some (.int .i64 1) ∧ w'.cell? ⟨bP, 0, none⟩ = some (.int .i64 k) ∧ w'.cell? ⟨bP, 1, none⟩ = some (.int .i64 m) ∧ w'.cell? ⟨bP, 2, none⟩ = some (.int .i64 r) ∧ w'.cell? ⟨bP, 3, none⟩ = some (.slice B q.len c)) w4d)
  refine wpAnyS_take (i := 0) (v := ?_) (by kernel_rfl) rfl (fun _ _ _ h => h) rfl hS0 (fun w hSw => by (try dsimp only at hSw); go_simp; try with_reducible rfl) ?_
  try simp only [List.getElem_toArray, List.getElem_cons_zero, List.getElem_cons_succ, Act.put, List.setIfInBounds_toArray, List.set_cons_zero, List.set_cons_succ]
  refine wpAnyS_take (i := 1) (v := ?_) (by kernel_rfl) rfl (fun _ _ _ h => h) rfl hS0 (fun w hSw => by (try dsimp only at hSw); go_simp; try with_reducible rfl) ?_
  try simp only [List.getElem_toArray, List.getElem_cons_zero, List.getElem_cons_succ, Act.put, List.setIfInBounds_toArray, List.set_cons_zero, List.set_cons_succ]
  refine wpAnyS_take (i := 2) (v := ?_) (by kernel_rfl) rfl (fun _ _ _ h => h) rfl hS0 (fun w hSw => by (try dsimp only at hSw); go_simp; try with_reducible rfl) ?_
  try simp only [List.getElem_toArray, List.getElem_cons_zero, List.getElem_cons_succ, Act.put, List.setIfInBounds_toArray, List.set_cons_zero, List.set_cons_succ]
  refine wpAnyS_take (i := 3) (v := ?_) (by kernel_rfl) rfl (fun _ _ _ h => h) rfl hS0 (fun w hSw => by (try dsimp only at hSw); go_simp; try with_reducible rfl) ?_
  try simp only [List.getElem_toArray, List.getElem_cons_zero, List.getElem_cons_succ, Act.put, List.setIfInBounds_toArray, List.set_cons_zero, List.set_cons_succ]
  refine wpAnyS_take (i := 5) (v := ?_) (by kernel_rfl) rfl (fun _ _ _ h => h) rfl hS0 (fun w hSw => by (try dsimp only at hSw); go_simp; try with_reducible rfl) ?_
  try simp only [List.getElem_toArray, List.getElem_cons_zero, List.getElem_cons_succ, Act.put, List.setIfInBounds_toArray, List.set_cons_zero, List.set_cons_succ]
  refine wpAnyS_one (i := 4) (by kernel_rfl) rfl rfl (fun K hK => ?_)
  go_simp
  obtain ⟨w4m, hW⟩ : ∃ w4m, w4m = w4d.alloc (.cells (zs m) 2) := ⟨_, rfl⟩
  have hb : Below w4d.heap.size w4d w4m := by rw [hW]; exact (Below.refl _ w4d).alloc (Nat.le_refl _) _
  have hz := zs_row m w4d 2
  rw [← hW] at hz ⊢
  have TR4m := Lib.hid (TR4d.out.below hb)
  have PP4m := Lib.hid (PP4d.out.below hb)
  have KK4m := Lib.hid (KK4d.out.below hb)
  have BB4m : Hid (Below w.heap.size w w4m) := Lib.hid (BB4d.out.trans (hb.mono BB4d.out.size))
  have HZ := Lib.hid hz.ints
  have hS1 := (⟨TR4m.out.1, TR4m.out.2.1, TR4m.out.2.2, PP4m.out.1, PP4m.out.2.1, PP4m.out.2.2.1, PP4m.out.2.2.2⟩ : (fun w' => w'.cell? ⟨bR, 0, none⟩ = some (.int .i64 1009) ∧ w'.cell? ⟨bR, 1, none⟩ = some (.int .i64 1) ∧ w'.cell? ⟨bR, 2, none⟩ = some (.int .i64 1) ∧ w'.cell? ⟨bP, 0, none⟩ = some (.int .i64 k) ∧ w'.cell? ⟨bP, 1, none⟩ = some (.int .i64 m) ∧ w'.cell? ⟨bP, 2, none⟩ = some (.int .i64 r) ∧ w'.cell? ⟨bP, 3, none⟩ = some (.slice B q.len c)) w4m)
  clear hW hb hz
  refine hK.out _ _ (fun _ => hS1) ?_
  clear hK K
  try simp only [List.getElem_toArray, List.getElem_cons_zero, List.getElem_cons_succ, Act.put, List.setIfInBounds_toArray, List.set_cons_zero, List.set_cons_succ]
  refine wpAnyS_one (i := 6) (by kernel_rfl) rfl rfl (fun K hK => ?_)
  go_simp
  refine (HRUN.out w4m (some ⟨w4d.heap.size, 0, none⟩) KK4m.out HZ.out).mono ?_
  rintro z w4c ⟨gy, rfl, hb⟩
  have TR4c := Lib.hid (TR4m.out.below hb)
  have PP4c := Lib.hid (PP4m.out.below hb)
  have KK4c := Lib.hid (KK4m.out.below hb)
  have BB4c : Hid (Below w.heap.size w w4c) := Lib.hid (BB4m.out.trans (hb.mono BB4m.out.size))
  have hS2 := (⟨TR4c.out.1, TR4c.out.2.1, TR4c.out.2.2, PP4c.out.1, PP4c.out.2.1, PP4c.out.2.2.1, PP4c.out.2.2.2⟩ : (fun w' => w'.cell? ⟨bR, 0, none⟩ = some (.int .i64 1009) ∧ w'.cell? ⟨bR, 1, none⟩ = some (.int .i64 1) ∧ w'.cell? ⟨bR, 2, none⟩ = some (.int .i64 1) ∧ w'.cell? ⟨bP, 0, none⟩ = some (.int .i64 k) ∧ w'.cell? ⟨bP, 1, none⟩ = some (.int .i64 m) ∧ w'.cell? ⟨bP, 2, none⟩ = some (.int .i64 r) ∧ w'.cell? ⟨bP, 3, none⟩ = some (.slice B q.len c)) w4c)
  clear hb
  refine hK.out _ _ (fun _ => hS2) ?_
  clear hK K
  try simp only [List.getElem_toArray, List.getElem_cons_zero, List.getElem_cons_succ, Act.put, List.setIfInBounds_toArray, List.set_cons_zero, List.set_cons_succ]
  refine wpAnyS_take (i := 7) (v := ?_) (by kernel_rfl) rfl (fun _ _ _ h => h) rfl hS2 (fun w hSw => by (try dsimp only at hSw); go_simp; try with_reducible rfl) ?_
  try simp only [List.getElem_toArray, List.getElem_cons_zero, List.getElem_cons_succ, Act.put, List.setIfInBounds_toArray, List.set_cons_zero, List.set_cons_succ]
  refine wpAnyS_take (i := 8) (v := ?_) (by kernel_rfl) rfl (fun _ _ _ h => h) rfl hS2 (fun w hSw => by (try dsimp only at hSw); go_simp; try with_reducible rfl) ?_
  try simp only [List.getElem_toArray, List.getElem_cons_zero, List.getElem_cons_succ, Act.put, List.setIfInBounds_toArray, List.set_cons_zero, List.set_cons_succ]
  refine wpAnyS_take (i := 9) (v := ?_) (by kernel_rfl) rfl (fun _ _ _ h => h) rfl hS2 (fun w hSw => by (try dsimp only at hSw); go_simp; try with_reducible rfl) ?_
  try simp only [List.getElem_toArray, List.getElem_cons_zero, List.getElem_cons_succ, Act.put, List.setIfInBounds_toArray, List.set_cons_zero, List.set_cons_succ]
  refine wpAnyS_take (i := 10) (v := ?_) (by kernel_rfl) rfl (fun _ _ _ h => h) rfl hS2 (fun w hSw => by (try dsimp only at hSw); go_simp; try with_reducible rfl) ?_
  try simp only [List.getElem_toArray, List.getElem_cons_zero, List.getElem_cons_succ, Act.put, List.setIfInBounds_toArray, List.set_cons_zero, List.set_cons_succ]
  refine wpAnyS_end 1 11 (by kernel_rfl) (by decide) rfl ?_
  simp only [List.toList_toArray, List.drop_succ_cons, List.drop_zero]
  clear hS0 hS1 hS2
  go_wp2_with fail
  refine (HWK.out _).mono ?_
  rintro z w9 ⟨rfl, hb⟩
  have BB9 : Hid (Below w.heap.size w w9) := Lib.hid (BB4c.out.trans (hb.mono BB4c.out.size))
  clear hb
  go_wp2
  go_ret
  exact ⟨rfl, BB9.out⟩
end Go.Proofs.Yteaimnemobnknaa
