/- The walk of RealWholes. -/
import Derived.Test.YtmgfaeineklccaaGreatMG1
import Derived.Test.YtmgfaeineklccaaGreatMI1
import Derived.Test.YtmgfaeineklccaaGreatMZ5
import Derived.Test.YtmgfaeineklccaaGreatZ2
set_option linter.unusedSimpArgs false
set_option linter.unusedVariables false
namespace Go.Proofs.YtmgfaeineklccaaGreat
open Go.RowKit Go.Lib

@[go_sem] theorem run_min60 {P : Program} (w : World) (ts : Array TypeId) (t : TypeId) (x y : Int) :
    (Builtin.min_ ts t #[.int .i64 x, .int .i64 y]).run P w = .ok (.int .i64 (min x y)) w := by
  show ([Value.int .i64 y].foldlM Builtin.min2 (.int .i64 x)).run P w = _
  simp [List.foldlM, Builtin.min2]
  omega
theorem bs_C (u : Rx) (w : World) : (Instr.buildSlice 47 1 #[(0, cV u)]).run Tryz.prog w = .ok (.slice (some ⟨w.heap.size, 0, none⟩) 1 1) (w.alloc (.cells #[.float .f64 (u.1 : Nat), .float .f64 (u.2 : Nat)] 52)) := by
  obtain ⟨i0, hi, hz0, hz1, hz2⟩ := info_parts info_C
  refine run_buildSlice w 47 52 1 _ #[.float .f64 (u.1 : Nat), .float .f64 (u.2 : Nat)] i0 _ Tryz.underlying47 hi hz0 (by rw [hz1]; decide) (by rw [hz1]; decide) ?_
  rw [hz1]
  have hr : Array.range 1 = #[0] := by decide
  have hr2 : Array.range 2 = #[0, 1] := by decide
  simp [Instr.fill, Value.cells, hr, hr2]
/-- The three lists, and what is put behind each. -/
def ths (v5 v6 v7 : Value) (L : List Rx) (u : Rx) : Nat → Thr
  | 0 => ⟨52, 47, 2, 16, .agg #[.float .f64 0, .float .f64 0], v5, L.length, cxV L, [.float .f64 (u.1 : Nat), .float .f64 (u.2 : Nat)], cV u⟩
  | 1 => ⟨33, 53, 1, 8, .float .f64 0, v6, L.length, fltV (L.map Prod.fst), [.float .f64 (u.1 : Nat)], .float .f64 (u.1 : Nat)⟩
  | _ => ⟨33, 53, 1, 8, .float .f64 0, v7, L.length, fltV (L.map Prod.snd), [.float .f64 (u.2 : Nat)], .float .f64 (u.2 : Nat)⟩
theorem ths_ok (v5 v6 v7 : Value) (L : List Rx) (u : Rx) (hk : L.length + 1 ≤ 1099511627776) : ∀ t, t < 3 → (ths v5 v6 v7 L u t).Ok := by
  intro t ht
  rcases t with _ | _ | _ | t
  · refine ⟨Tryz.underlying47, info_C, rfl, (by decide : 0 < 2), (by decide : 16 ≤ 64), rfl, fun x hx => ?_, hk, bs_C u⟩
    have hx : x = .float .f64 (u.1 : Nat) ∨ x = .float .f64 (u.2 : Nat) := by simpa [ths] using hx
    rcases hx with rfl | rfl <;> rfl
  · refine ⟨Tryz.underlying53, info_float, rfl, (by decide : 0 < 1), (by decide : 8 ≤ 64), rfl, fun x hx => ?_, hk, bs_float u.1⟩
    have hx : x = .float .f64 (u.1 : Nat) := by simpa [ths] using hx
    subst hx; rfl
  · refine ⟨Tryz.underlying53, info_float, rfl, (by decide : 0 < 1), (by decide : 8 ≤ 64), rfl, fun x hx => ?_, hk, bs_float u.2⟩
    have hx : x = .float .f64 (u.2 : Nat) := by simpa [ths] using hx
    subst hx; rfl
  · omega
def u64F (x : Int) : Wd := ⟨(IntKind.u64.wrap x).toNat, by rw [IntKind.wrap_u64]; omega⟩

set_option maxRecDepth 100000 in
set_option maxHeartbeats 8000000 in
theorem RealWholes_any (A : Option Addr) (n0 c : Nat) (f : Nat → Int × Int) (x : Int) (b0 : -9223372036854775808 ≤ x) (b1 : x ≤ 9223372036854775807) (w : World) (hA : BitsAt w A n0 f) (hn : n0 ≤ 9223372036854775807) (hAc : A = none → c = 0) (hnc : n0 ≤ c) (hc : c ≤ 9223372036854775807) :
    Calls Tryz.prog 7 #[.slice A n0 c, .int .i64 x] w fun z w' => z = .returned (.bool true) ∧ Below w.heap.size w w' := by
  have HA := Lib.hid hA
  clear hA
  go_enter Tryz.func7, Tryz.ntmps7
  go_upto_region 3 with fail
  obtain ⟨m, hm, hmn⟩ : ∃ m : Nat, min (n0 : Int) 60 = (m : Int) ∧ m ≤ n0 := ⟨min n0 60, by omega, by omega⟩
  have hm60 : m ≤ 60 := by omega
  have hmc : (m : Int) ≤ c := by omega
  have hm0 : (0 : Int) ≤ (m : Int) := by omega
  have HM := Lib.hid hmn
  have HXB := Lib.hid (And.intro b0 b1)
  clear b0 b1
  go_cut [4, 5, 6, 7, 22, 23, 24] from 18 to 24 (fun s4 s5 s6 s7 s22 s23 s24 wx => s4 = .bool false ∧ s5 = .slice none 0 0 ∧ s6 = .slice none 0 0 ∧ s7 = .slice none 0 0 ∧ (∃ c', s22 = .slice A m c') ∧ s23 = .int .i64 m ∧ s24 = .int .i64 0 ∧ wx = w)
  case first =>
    rcases A with _ | a
    · obtain rfl := hAc rfl
      obtain rfl : n0 = 0 := by omega
      obtain rfl : m = 0 := by omega
      go_wp2_with fail
      go_meet
      exact ⟨rfl, rfl, rfl, rfl, ⟨0, rfl⟩, rfl, rfl, rfl⟩
    · go_wp2_with (fail)
      · go_meet
        obtain rfl : m = 60 := by omega
        exact ⟨rfl, rfl, rfl, rfl, ⟨c, rfl⟩, rfl, rfl, rfl⟩
      · go_meet
        obtain rfl : m = n0 := by omega
        exact ⟨rfl, rfl, rfl, rfl, ⟨c, rfl⟩, rfl, rfl, rfl⟩
  case rest =>
    obtain ⟨rfl, rfl, rfl, rfl, ⟨c', rfl⟩, rfl, rfl, rfl⟩ := hcut
    rename World => w
    go_wp2_with fail
    go_loopw [5, 6, 7, 24] (fun v5 v6 v7 vi wr => ∃ (k : Nat) (L : List Rx), k ≤ m ∧ vi = .int .i64 k ∧ Hid (L.length = k) ∧ Hid (OwnX wr w.heap.size v5 L) ∧ Hid (OwnL wr w.heap.size v6 (L.map Prod.fst)) ∧ Hid (OwnL wr w.heap.size v7 (L.map Prod.snd)) ∧ Hid (Apart v5 v6 ∧ Apart v5 v7 ∧ Apart v6 v7) ∧ Hid (Below w.heap.size w wr)) (fun _ _ _ vi _ => m - (intOf vi).toNat)
    case atStart => exact ⟨0, [], by omega, rfl, Lib.hid rfl, Lib.hid (OwnX.nil _ _), Lib.hid (OwnL.nil _ _), Lib.hid (OwnL.nil _ _), Lib.hid ⟨fun g e => (by cases e), fun g e => (by cases e), fun g e => (by cases e)⟩, Lib.hid (Below.refl _ _)⟩
    case round =>
      rename World => wr
      obtain ⟨k, L, hk, rfl, hL, o5, o6, o7, hap, hb⟩ := hrel
      by_cases hlt : k < m
      · have hki : (k : Int) < m := by omega
        have hk9 : k + 1 ≤ 32768 := by omega
        obtain ⟨b, o, rfl, y0, y1⟩ := (HA.out.keep hb.out) k (by have := HM.out; omega)
        obtain ⟨x0, hx0⟩ : ∃ x0, (f k).1 = x0 := ⟨_, rfl⟩
        obtain ⟨x1, hx1⟩ : ∃ x1, (f k).2 = x1 := ⟨_, rfl⟩
        rw [hx0] at y0
        rw [hx1] at y1
        clear hx0 hx1
        obtain ⟨u, hu⟩ : ∃ u, u64F x0 = u := ⟨_, rfl⟩
        obtain ⟨v, hv⟩ : ∃ v, u64F x1 = v := ⟨_, rfl⟩
        have hu1 : (IntKind.u64.wrap x0).toNat = (u : Nat) := by rw [← hu]; rfl
        have hv1 : (IntKind.u64.wrap x1).toNat = (v : Nat) := by rw [← hv]; rfl
        have hfrom := run_fromF
        clear hu hv
        generalize hv5 : u5 = v5 at *
        generalize hv6 : u6 = v6 at *
        generalize hv7 : u7 = v7 at *
        clear hv5 hv6 hv7
        go_upto_region 6 with fail
        obtain ⟨wb, hwb⟩ : ∃ wb, wb = wr.alloc (.cells #[.int .i64 x0, .int .i64 x1] 48) := ⟨_, rfl⟩
        obtain ⟨gb, hgb⟩ : ∃ gb, gb = wr.heap.size := ⟨_, rfl⟩
        have hc0 : wb.cell? ⟨gb, 0, none⟩ = some (.int .i64 x0) := by rw [hwb, hgb, World.cell?_alloc_new]; rfl
        have hc1 : wb.cell? ⟨gb, 1, none⟩ = some (.int .i64 x1) := by rw [hwb, hgb, World.cell?_alloc_new]; rfl
        have HBB : Hid (Below wr.heap.size wr wb) := Lib.hid (by rw [hwb]; exact (Below.refl _ wr).alloc (Nat.le_refl _) _)
        rw [← hwb, ← hgb]
        clear hwb hgb y0 y1
        go_upto_region 6 with fail
        refine wp_region_S (fun w' => w'.cell? ⟨gb, 0, none⟩ = some (.int .i64 x0) ∧ w'.cell? ⟨gb, 1, none⟩ = some (.int .i64 x1)) 10 (by kernel_rfl) ?_
        have hS0 : wb.drew.cell? ⟨gb, 0, none⟩ = some (.int .i64 x0) ∧ wb.drew.cell? ⟨gb, 1, none⟩ = some (.int .i64 x1) := ⟨hc0, hc1⟩
        have hS1 : (wb.alloc (.cells #[.float .f64 0, .float .f64 0] 52)).drew.cell? ⟨gb, 0, none⟩ = some (.int .i64 x0) ∧ (wb.alloc (.cells #[.float .f64 0, .float .f64 0] 52)).drew.cell? ⟨gb, 1, none⟩ = some (.int .i64 x1) := ⟨keep_cell ((Below.refl _ wb).alloc (Nat.le_refl _) _) hc0, keep_cell ((Below.refl _ wb).alloc (Nat.le_refl _) _) hc1⟩
        have hzC := zero_C
        refine Takes.intro [0,1,2,4,5,6] ?_
        repeat (refine Takes.step (v := ?_) (by kernel_rfl) rfl (fun _ _ _ h => h) rfl hS0 (fun w hSw => by (try dsimp only at hSw); go_simp; try with_reducible rfl) ?_; try simp only [List.getElem_toArray, List.getElem_cons_zero, List.getElem_cons_succ, Act.put, List.setIfInBounds_toArray, List.set_cons_zero, List.set_cons_succ])
        refine Takes.nil ?_
        refine wpAnyS_pair (i := 3) (j := 9) (by kernel_rfl) rfl rfl rfl rfl (fun K hK => ?_) (fun K hK => ?_)
        go_simp
        refine hK.out _ _ (fun _ => hS0) ?_
        clear hK K
        try simp only [List.getElem_toArray, List.getElem_cons_zero, List.getElem_cons_succ, Act.put, List.setIfInBounds_toArray, List.set_cons_zero, List.set_cons_succ]
        refine wpAnyS_pair (i := 7) (j := 9) (by kernel_rfl) rfl rfl rfl rfl (fun K hK => ?_) (fun K hK => ?_)
        go_simp
        refine hK.out _ _ (fun _ => hS0) ?_
        clear hK K
        try simp only [List.getElem_toArray, List.getElem_cons_zero, List.getElem_cons_succ, Act.put, List.setIfInBounds_toArray, List.set_cons_zero, List.set_cons_succ]
        refine Takes.intro [8] ?_
        repeat (refine Takes.step (v := ?_) (by kernel_rfl) rfl (fun _ _ _ h => h) rfl hS0 (fun w hSw => by (try dsimp only at hSw); go_simp; try with_reducible rfl) ?_; try simp only [List.getElem_toArray, List.getElem_cons_zero, List.getElem_cons_succ, Act.put, List.setIfInBounds_toArray, List.set_cons_zero, List.set_cons_succ])
        refine Takes.nil ?_
        refine wpAnyS_one (i := 9) (by kernel_rfl) rfl rfl (fun K hK => ?_)
        go_simp
        refine hK.out _ _ (fun _ => hS1) ?_
        clear hK K
        try simp only [List.getElem_toArray, List.getElem_cons_zero, List.getElem_cons_succ, Act.put, List.setIfInBounds_toArray, List.set_cons_zero, List.set_cons_succ]
        refine wpAnyS_end 1 10 (by kernel_rfl) (by decide) rfl ?_
        simp only [List.toList_toArray, List.drop_succ_cons, List.drop_zero]
        rotate_left
        go_simp
        refine hK.out _ _ (fun _ => hS1) ?_
        clear hK K
        try simp only [List.getElem_toArray, List.getElem_cons_zero, List.getElem_cons_succ, Act.put, List.setIfInBounds_toArray, List.set_cons_zero, List.set_cons_succ]
        refine wpAnyS_one (i := 7) (by kernel_rfl) rfl rfl (fun K hK => ?_)
        go_simp
        refine hK.out _ _ (fun _ => hS1) ?_
        clear hK K
        try simp only [List.getElem_toArray, List.getElem_cons_zero, List.getElem_cons_succ, Act.put, List.setIfInBounds_toArray, List.set_cons_zero, List.set_cons_succ]
        refine Takes.intro [8] ?_
        repeat (refine Takes.step (v := ?_) (by kernel_rfl) rfl (fun _ _ _ h => h) rfl hS1 (fun w hSw => by (try dsimp only at hSw); go_simp; try with_reducible rfl) ?_; try simp only [List.getElem_toArray, List.getElem_cons_zero, List.getElem_cons_succ, Act.put, List.setIfInBounds_toArray, List.set_cons_zero, List.set_cons_succ])
        refine Takes.nil ?_
        refine wpAnyS_end 1 10 (by kernel_rfl) (by decide) rfl ?_
        simp only [List.toList_toArray, List.drop_succ_cons, List.drop_zero]
        rotate_left
        go_simp
        refine hK.out _ _ (fun _ => hS1) ?_
        clear hK K
        try simp only [List.getElem_toArray, List.getElem_cons_zero, List.getElem_cons_succ, Act.put, List.setIfInBounds_toArray, List.set_cons_zero, List.set_cons_succ]
        refine wpAnyS_one (i := 3) (by kernel_rfl) rfl rfl (fun K hK => ?_)
        go_simp
        refine hK.out _ _ (fun _ => hS1) ?_
        clear hK K
        try simp only [List.getElem_toArray, List.getElem_cons_zero, List.getElem_cons_succ, Act.put, List.setIfInBounds_toArray, List.set_cons_zero, List.set_cons_succ]
        refine wpAnyS_one (i := 7) (by kernel_rfl) rfl rfl (fun K hK => ?_)
        go_simp
        refine hK.out _ _ (fun _ => hS1) ?_
        clear hK K
        try simp only [List.getElem_toArray, List.getElem_cons_zero, List.getElem_cons_succ, Act.put, List.setIfInBounds_toArray, List.set_cons_zero, List.set_cons_succ]
        refine Takes.intro [8] ?_
        repeat (refine Takes.step (v := ?_) (by kernel_rfl) rfl (fun _ _ _ h => h) rfl hS1 (fun w hSw => by (try dsimp only at hSw); go_simp; try with_reducible rfl) ?_; try simp only [List.getElem_toArray, List.getElem_cons_zero, List.getElem_cons_succ, Act.put, List.setIfInBounds_toArray, List.set_cons_zero, List.set_cons_succ])
        refine Takes.nil ?_
        refine wpAnyS_end 1 10 (by kernel_rfl) (by decide) rfl ?_
        simp only [List.toList_toArray, List.drop_succ_cons, List.drop_zero]
        all_goals clear hS0 hS1 hzC
        all_goals go_upto_region 7 with fail
        all_goals
          obtain ⟨wC, hwC⟩ : ∃ wC, wC = (wb.alloc (.cells #[.float .f64 (u : Nat), .float .f64 (v : Nat)] 52)).drew := ⟨_, rfl⟩
          obtain ⟨gC, hgC0⟩ : ∃ gC, gC = wb.heap.size := ⟨_, rfl⟩
          have hd0 : wC.cell? ⟨gC, 0, none⟩ = some (.float .f64 (u : Nat)) := by rw [hwC, hgC0]; show (wb.alloc _).cell? _ = _; rw [World.cell?_alloc_new]; rfl
          have hd1 : wC.cell? ⟨gC, 1, none⟩ = some (.float .f64 (v : Nat)) := by rw [hwC, hgC0]; show (wb.alloc _).cell? _ = _; rw [World.cell?_alloc_new]; rfl
          have HBRC : Hid (Below wr.heap.size wr wC) := Lib.hid (by rw [hwC]; exact (HBB.out.alloc HBB.out.size _).drew)
          have HBC : Hid (Below w.heap.size w wC) := Lib.hid (hb.out.trans (HBRC.out.mono hb.out.size))
          have hgC : wr.heap.size ≤ gC := by rw [hgC0]; exact HBB.out.size
          have HTR : Hid (∀ t, t < 3 → wr.ownsRow w.heap.size (ths v5 v6 v7 L (u, v) t).e (ths v5 v6 v7 L (u, v) t).sz (ths v5 v6 v7 L (u, v) t).v (ths v5 v6 v7 L (u, v) t).k (ths v5 v6 v7 L (u, v) t).xs) := Lib.hid (fun t ht => by
            rcases t with _ | _ | _ | t
            · exact o5.out
            · have h1 := o6.out; unfold OwnL at h1; rw [List.length_map] at h1; exact h1
            · have h1 := o7.out; unfold OwnL at h1; rw [List.length_map] at h1; exact h1
            · omega)
          have HAP : Hid (∀ s t, s < 3 → t < 3 → s ≠ t → ∀ g, (ths v5 v6 v7 L (u, v) s).v.ownBlock = some g → (ths v5 v6 v7 L (u, v) t).v.ownBlock ≠ some g) := Lib.hid (fun s t hs ht hne => by
            rcases s with _ | _ | _ | s <;> rcases t with _ | _ | _ | t
            all_goals first | omega | exact absurd rfl hne | exact hap.out.1 | exact hap.out.2.1 | exact hap.out.2.2 | exact hap.out.1.symm | exact hap.out.2.1.symm | exact hap.out.2.2.symm)
          rw [← hwC, ← hgC0]
          clear hwC hgC0 hc0 hc1 HBB hap o5 o6 o7
          refine wp_region_S (fun w' => (w'.cell? ⟨gC, 0, none⟩ = some (.float .f64 (u : Nat)) ∧ w'.cell? ⟨gC, 1, none⟩ = some (.float .f64 (v : Nat))) ∧ Hid (Below w.heap.size w w')) 13 (by kernel_rfl) ?_
          have hS0 : (wC.drew.cell? ⟨gC, 0, none⟩ = some (.float .f64 (u : Nat)) ∧ wC.drew.cell? ⟨gC, 1, none⟩ = some (.float .f64 (v : Nat))) ∧ Hid (Below w.heap.size w wC.drew) := ⟨⟨hd0, hd1⟩, Lib.hid (HBC.out.drew)⟩
          refine Takes.intro [0,1,4,5,6,9,10,11] ?_
          repeat (refine Takes.step (v := ?_) (by kernel_rfl) rfl (fun _ _ _ h => h) rfl hS0 (fun w hSw => by (try dsimp only at hSw); go_simp; try with_reducible rfl) ?_; try simp only [List.getElem_toArray, List.getElem_cons_zero, List.getElem_cons_succ, Act.put, List.setIfInBounds_toArray, List.set_cons_zero, List.set_cons_succ])
          refine Takes.nil ?_
          refine wpAppends 3 w.heap.size (ths v5 v6 v7 L (u, v)) [2, 3, 7, 8, 12, 13] [[], [0], [], [2, 1], [], [4, 3]] [39, 40, 44, 45, 49, 50] 3 14 (ths_ok _ _ _ _ _ (by have := hL.out; omega)) rfl rfl (by decide) (fun q hq => (by rcases q with _ | _ | _ | q <;> first | decide | omega)) (by kernel_rfl) (by decide) rfl (by kernel_rfl) hS0 ?_ ?_ HBC.out.size ?_ ?_ ?_ ?_ ?_
          · intro w' o ⟨⟨e0, e1⟩, e2⟩ hsz
            exact ⟨⟨keep_cell ((Below.refl _ w').alloc (Nat.le_refl _) _) e0, keep_cell ((Below.refl _ w').alloc (Nat.le_refl _) _) e1⟩, Lib.hid (e2.out.alloc hsz _)⟩
          · intro w' w'' t ht ⟨⟨e0, e1⟩, e2⟩ hsz hg
            have hne : (ths v5 v6 v7 L (u, v) t).v.ownBlock ≠ some gC := fun e => by
              have := World.ownsRow.lt (HTR.out t ht) gC e
              have := hgC
              omega
            exact ⟨⟨grown_cell hg e0 hne, grown_cell hg e1 hne⟩, Lib.hid (e2.out.grown hg hsz (fun g e => (World.ownsRow.lt (HTR.out t ht) g e).1))⟩
          · intro t ht
            exact owns_below (HTR.out t ht) (HBRC.out.drew)
          · exact HAP.out
          · intro t ht
            rcases t with _ | _ | _ | t
            · exact ⟨_, _, _, rfl, rfl, rfl, rfl, rfl, fun x => (eval_putG_no x _ _ _ _ (by decide)).trans (by kernel_rfl)⟩
            · exact ⟨_, _, _, rfl, rfl, rfl, rfl, rfl, fun x => (eval_putG_no x _ _ _ _ (by decide)).trans (by kernel_rfl)⟩
            · exact ⟨_, _, _, rfl, rfl, rfl, rfl, rfl, fun x => (eval_putG_no x _ _ _ _ (by decide)).trans (by kernel_rfl)⟩
            · omega
          · intro t ht
            rcases t with _ | _ | _ | t
            · exact ⟨_, _, _, _, rfl, rfl, rfl, rfl, rfl, fun x => (eval_putG_no x _ _ _ _ (by decide)).trans (by kernel_rfl), fun x => eval_putG_at x 39 _ 0 _ 0 (by decide) rfl (of_decide_eq_true (by kernel_rfl))⟩
            · exact ⟨_, _, _, _, rfl, rfl, rfl, rfl, rfl, fun x => (eval_putG_no x _ _ _ _ (by decide)).trans (by kernel_rfl), fun x => eval_putG_at x 44 _ 0 _ 2 (by decide) rfl (of_decide_eq_true (by kernel_rfl))⟩
            · exact ⟨_, _, _, _, rfl, rfl, rfl, rfl, rfl, fun x => (eval_putG_no x _ _ _ _ (by decide)).trans (by kernel_rfl), fun x => eval_putG_at x 49 _ 0 _ 4 (by decide) rfl (of_decide_eq_true (by kernel_rfl))⟩
            · omega
          intro x wE hSE hGr

          obtain ⟨g5, c5, e5, r5⟩ := hGr.row 0 (by decide)
          obtain ⟨g6, c6, e6, r6⟩ := hGr.row 1 (by decide)
          obtain ⟨g7, c7, e7, r7⟩ := hGr.row 2 (by decide)
          have a1 := hGr.ap 0 1 (by decide) (by decide) (by decide)
          have a2 := hGr.ap 0 2 (by decide) (by decide) (by decide)
          have a3 := hGr.ap 1 2 (by decide) (by decide) (by decide)
          rw [show 2 * 0 + 1 = 1 from rfl] at e5 a1 a2
          rw [show 2 * 1 + 1 = 3 from rfl] at e6 a1 a3
          rw [show 2 * 2 + 1 = 5 from rfl] at e7 a2 a3
          rw [e5] at a1 a2
          rw [e6] at a1 a3
          rw [e7] at a2 a3
          have HR5 : Hid (OwnX wE w.heap.size (.slice (some ⟨g5, 0, none⟩) (k + 1) c5) (L ++ [(u, v)])) := Lib.hid (by
            unfold OwnX
            rw [List.length_append, ← cxV_app, ← hL.out]
            exact r5)
          have HR6 : Hid (OwnL wE w.heap.size (.slice (some ⟨g6, 0, none⟩) (k + 1) c6) ((L ++ [(u, v)]).map Prod.fst)) := Lib.hid (by
            unfold OwnL
            rw [List.length_map, List.length_append, List.map_append, List.map_cons, List.map_nil, ← fltV_app, ← hL.out]
            exact r6)
          have HR7 : Hid (OwnL wE w.heap.size (.slice (some ⟨g7, 0, none⟩) (k + 1) c7) ((L ++ [(u, v)]).map Prod.snd)) := Lib.hid (by
            unfold OwnL
            rw [List.length_map, List.length_append, List.map_append, List.map_cons, List.map_nil, ← fltV_app, ← hL.out]
            exact r7)
          have HAP2 := Lib.hid (And.intro a1 (And.intro a2 a3))
          have HBE := hSE.2
          have HL2 : Hid ((L ++ [(u, v)]).length = k + 1) := Lib.hid (by rw [List.length_append, hL.out]; rfl)
          have e5 : x 1 = .slice (some ⟨g5, 0, none⟩) (k + 1 : Nat) c5 := by rw [← hL.out]; exact e5
          have e6 : x 3 = .slice (some ⟨g6, 0, none⟩) (k + 1 : Nat) c6 := by rw [← hL.out]; exact e6
          have e7 : x 5 = .slice (some ⟨g7, 0, none⟩) (k + 1 : Nat) c7 := by rw [← hL.out]; exact e7
          clear hGr hSE r5 r6 r7 a1 a2 a3 HTR HAP hS0 hd0 hd1 HBRC HBC
          simp only [putG, Nat.zero_add, Nat.reduceAdd, List.setIfInBounds_toArray, List.set_cons_zero, List.set_cons_succ, Act.put, e5, e6, e7, List.toList_toArray, List.drop_succ_cons, List.drop_zero]
          go_wp2
          exact ⟨⟨k + 1, L ++ [(u, v)], by omega, by go_num, HL2, HR5, HR6, HR7, HAP2, HBE⟩, by simp [intOf]; omega⟩
      · obtain rfl : k = m := by omega
        obtain ⟨B5, d5, rfl, hX5, -⟩ := o5.out.cs
        obtain ⟨B6, d6, rfl, hX6, -⟩ := o6.out.fs
        obtain ⟨B7, d7, rfl, hX7, -⟩ := o7.out.fs
        obtain ⟨h, hh⟩ : ∃ h : Nat → Cx, h = fun i => nC (L.getD i (0, 0)) := ⟨_, rfl⟩
        rw [← hh] at hX5
        rw [List.length_map] at hX6 hX7 ⊢
        rw [List.length_map]
        have hX6 : FsAt wr B6 L.length (fun i => (h i).1) := hX6.congr (fun i hi => by
          rw [hh]
          show nz _ = nz _
          rw [List.getD_eq_getElem?_getD, List.getD_eq_getElem?_getD, List.getElem?_map, List.getElem?_eq_getElem hi]
          rfl)
        have hX7 : FsAt wr B7 L.length (fun i => (h i).2) := hX7.congr (fun i hi => by
          rw [hh]
          show nz _ = nz _
          rw [List.getD_eq_getElem?_getD, List.getD_eq_getElem?_getD, List.getElem?_map, List.getElem?_eq_getElem hi]
          rfl)
        have hLk := hL.out
        rw [hLk] at hX5 hX6 hX7 ⊢
        clear hh o5 o6 o7 hap hL hLk hlt hk
        obtain ⟨d, hd⟩ : ∃ d : Int, 2 * (k : Int) = d := ⟨_, rfl⟩
        obtain ⟨y1, hy1⟩ : ∃ y1 : Int, d - 1 = y1 := ⟨_, rfl⟩
        obtain ⟨y2, hy2⟩ : ∃ y2 : Int, d - 2 = y2 := ⟨_, rfl⟩
        have hd0 : wrap64 (2 * (k : Int)) = d := by rw [hd]; unfold wrap64; omega
        have hd1 : IntKind.i64.wrap (2 * (k : Int)) = d := by rw [hd, IntKind.wrap_i64]; omega
        have hy10 : wrap64 (d - 1) = y1 := by rw [hy1]; unfold wrap64; omega
        have hy11 : IntKind.i64.wrap (d - 1) = y1 := by rw [hy1, IntKind.wrap_i64]; omega
        have hy20 : wrap64 (d - 2) = y2 := by rw [hy2]; unfold wrap64; omega
        have hy21 : IntKind.i64.wrap (d - 2) = y2 := by rw [hy2, IntKind.wrap_i64]; omega
        have HYB : Hid (-9223372036854775808 ≤ y1 ∧ y1 ≤ 9223372036854775807 ∧ -9223372036854775808 ≤ y2 ∧ y2 ≤ 9223372036854775807) := Lib.hid (by omega)
        clear hd hy1 hy2
        obtain ⟨wI, hwI⟩ : ∃ wI, wI = wr.alloc (.cells #[.int .i64 x, .int .i64 y1, .int .i64 y2] 3) := ⟨_, rfl⟩
        obtain ⟨gI, hgI⟩ : ∃ gI, gI = wr.heap.size := ⟨_, rfl⟩
        have hbI : Below wr.heap.size wr wI := by rw [hwI]; exact (Below.refl _ wr).alloc (Nat.le_refl _) _
        obtain ⟨ms, hms⟩ : ∃ ms : Nat → Int, ms = fun i => if i = 0 then x else if i = 1 then y1 else y2 := ⟨_, rfl⟩
        have hcI : ∀ i, i < 3 → wI.cell? ⟨gI, i, none⟩ = some (.int .i64 (ms i)) := by
          intro i hi
          rw [hwI, hgI, hms, World.cell?_alloc_new]
          rcases i with _ | _ | _ | i
          · rfl
          · rfl
          · rfl
          · omega
        have hmb : ∀ i, i < 3 → -9223372036854775808 ≤ ms i ∧ ms i ≤ 9223372036854775807 := by
          intro i hi
          have := HYB.out
          have := HXB.out
          rw [hms]
          dsimp only
          split
          · omega
          · split <;> omega
        have HMB := Lib.hid hmb
        have HCI := Lib.hid hcI
        have HBI := Lib.hid (hb.out.trans (hbI.mono hb.out.size))
        have HX5 := Lib.hid (hX5.keep hbI)
        have HX6 := Lib.hid (hX6.keep hbI)
        have HX7 := Lib.hid (hX7.keep hbI)
        clear hX5 hX6 hX7 hmb hcI hbI hms HYB
        go_upto_region 10 with fail
        rw [← hwI, ← hgI]
        clear hwI hgI hd0 hd1 hy10 hy11 hy20 hy21
        go_loopw [63] (fun vi wz => ∃ q : Nat, q ≤ 3 ∧ vi = .int .i64 q ∧ Hid (Below wI.heap.size wI wz)) (fun vi _ => 3 - (intOf vi).toNat)
        case atStart => exact ⟨0, by omega, rfl, Lib.hid (Below.refl _ _)⟩
        case round =>
          rename World => wz
          obtain ⟨q, hq, rfl, hbz⟩ := hrel
          by_cases hlt : q < 3
          · have hqi : (q : Int) < 3 := by omega
            have hq0 : (0 : Int) ≤ q := by omega
            have hci := keep_cell hbz.out (HCI.out q hlt)
            have hmb := HMB.out q hlt
            obtain ⟨mq, hmq⟩ : ∃ mq, ms q = mq := ⟨_, rfl⟩
            rw [hmq] at hci hmb
            clear hmq
            have HW := Lib.hid (Whole_any B5 k d5 h mq wz (HX5.out.keep hbz.out))
            by_cases t1 : mq < 1 ∨ 16384 < mq
            · have e : wholeE k mq = 3 := by unfold wholeE; rw [if_pos t1]
              rw [e] at HW
              clear e
              rcases t1 with t1 | t1
              · go_wp2_with fail
                refine HW.out.mono ?_
                rintro z w2 ⟨⟨-, rfl⟩ | ⟨h0, -⟩, hb2⟩
                · have HB2 : Hid (Below wI.heap.size wI w2) := Lib.hid (hbz.out.trans (hb2.mono hbz.out.size))
                  clear hb2 HW hbz
                  go_wp2
                  exact ⟨⟨q + 1, by omega, by go_num, HB2⟩, by simp [intOf]; omega⟩
                · exact absurd h0 (by decide)
              · have t2 : ¬ mq < 1 := by omega
                go_wp2_with fail
                refine HW.out.mono ?_
                rintro z w2 ⟨⟨-, rfl⟩ | ⟨h0, -⟩, hb2⟩
                · have HB2 : Hid (Below wI.heap.size wI w2) := Lib.hid (hbz.out.trans (hb2.mono hbz.out.size))
                  clear hb2 HW hbz
                  go_wp2
                  exact ⟨⟨q + 1, by omega, by go_num, HB2⟩, by simp [intOf]; omega⟩
                · exact absurd h0 (by decide)
            · obtain ⟨n, rfl⟩ : ∃ n : Nat, mq = n := ⟨mq.toNat, by omega⟩
              have n1 : 1 ≤ n := by omega
              have n2 : n ≤ 16384 := by omega
              have hl9 : n / 2 + 1 < 9223372036854775808 := by omega
              have hn9 : n / 2 < 9223372036854775808 := by omega
              have hn3 : n < 9223372036854775808 := by omega
              obtain ⟨a, ha⟩ : ∃ a, n / 2 = a := ⟨_, rfl⟩
              obtain ⟨l, hl⟩ : ∃ l, a + 1 = l := ⟨_, rfl⟩
              rw [ha] at hn9 hl9
              rw [hl] at hl9
              have hai : (n : Int) / 2 = (a : Int) := by omega
              have hli : (a : Int) + 1 = (l : Int) := by omega
              have ha0 : wrap64 ((n : Int) / 2) = (a : Int) := by rw [hai]; exact wrap64_nat a hn9
              have ha1 : IntKind.i64.wrap ((n : Int) / 2) = (a : Int) := by rw [hai]; exact wrapI_nat a hn9
              have hl0 : wrap64 ((a : Int) + 1) = (l : Int) := by rw [hli]; exact wrap64_nat l hl9
              have hl1 : IntKind.i64.wrap ((a : Int) + 1) = (l : Int) := by rw [hli]; exact wrapI_nat l hl9
              have i1 : ¬ (n : Int) < 1 := by omega
              have i2 : ¬ (16384 : Int) < n := by omega
              have HN := Lib.hid (And.intro n1 n2)
              by_cases t3 : k = l
              · have e : wholeE k (n : Int) = 0 := by unfold wholeE; rw [if_neg t1, hai, hli, t3]; exact if_neg (fun h => h rfl)
                rw [e] at HW
                have HKL : Hid (k = n / 2 + 1) := Lib.hid (by rw [t3, ← hl, ha])
                subst t3
                clear e t1 hmb ha hl hl9 hn9 hai hli n1 n2
                go_wp2_with fail
                refine HW.out.mono ?_
                rintro z w2 ⟨⟨h0, -⟩ | ⟨-, g, rfl, -, -, hr⟩, hb2⟩
                · exact absurd rfl h0
                rw [Int.toNat_natCast] at hr ⊢
                have HB2 : Hid (Below wI.heap.size wI w2) := Lib.hid (hbz.out.trans (hb2.mono hbz.out.size))
                have HR := Lib.hid hr
                have HRW := Lib.hid (refWhole_any B6 B7 n k d6 d7 h w2 (HX6.out.keep HB2.out) (HX7.out.keep HB2.out) HKL.out HN.out.1 HN.out.2)
                clear hb2 HW hbz hr
                go_wp2_with fail
                refine HRW.out.mono ?_
                rintro z w3 ⟨va, vb, La, Lb, rfl, oa, ob, la, lb, hwl, hb3⟩
                obtain ⟨A1, k1, rfl, hfa, -⟩ := oa.fs
                obtain ⟨A2, k2, rfl, hfb, -⟩ := ob.fs
                rw [la] at hfa ⊢
                rw [lb] at hfb ⊢
                have HFA := Lib.hid hfa
                have HFB := Lib.hid hfb
                have HWL := Lib.hid hwl
                have HLA := Lib.hid la
                have HR3 := Lib.hid (HR.out.keep hb3)
                have HB3 : Hid (Below wI.heap.size wI w3) := Lib.hid (HB2.out.trans (hb3.mono HB2.out.size))
                clear oa ob la lb hwl hfa hfb hb3 HRW HR HB2 ha0 ha1 hl0 hl1
                go_wp2
                go_loopw [118] (fun vj wy => ∃ j : Nat, j ≤ n ∧ vj = .int .i64 j ∧ Hid (Below w3.heap.size w3 wy)) (fun vj _ => n - (intOf vj).toNat)
                case atStart => exact ⟨0, by omega, rfl, Lib.hid (Below.refl _ _)⟩
                case round =>
                  rename World => wz
                  obtain ⟨j, hj, rfl, hby⟩ := hrel
                  by_cases hjt : j < n
                  · have hji : (j : Int) < n := by omega
                    have hj9 : j + 1 ≤ 32768 := by have := HN.out; omega
                    obtain ⟨p, c0, c1, -, -, hp⟩ := (HR3.out.keep hby.out) j hjt
                    obtain ⟨bA, oA, ua, rfl, c2, hua⟩ := (HFA.out.keep hby.out) j hjt
                    obtain ⟨bB, oB, ub, rfl, c3, hub⟩ := (HFB.out.keep hby.out) j hjt
                    have hw := HWL.out j (by rw [HLA.out]; exact hjt)
                    have HBT : Hid (nz (p.1 : Nat) = nz (ua : Nat) ∧ nz (p.2 : Nat) = nz (ub : Nat)) := Lib.hid ⟨(congrArg Prod.fst hp).trans (hw.1.symm.trans hua.symm), (congrArg Prod.snd hp).trans (hw.2.symm.trans hub.symm)⟩
                    clear hp hua hub hw
                    go_upto_region 25 with fail
                    refine wp_region_S (fun w' => ((w'.cell? ⟨g, j * 2, none⟩ = some (.float .f64 (p.1 : Nat)) ∧ w'.cell? ⟨g, j * 2 + 1, none⟩ = some (.float .f64 (p.2 : Nat))) ∧ w'.cell? ⟨bA, oA + j, none⟩ = some (.float .f64 (ua : Nat))) ∧ w'.cell? ⟨bB, oB + j, none⟩ = some (.float .f64 (ub : Nat))) 21 (by kernel_rfl) ?_
                    have hS0 := (⟨⟨⟨c0, c1⟩, c2⟩, c3⟩ : ((wz.drew.cell? ⟨g, j * 2, none⟩ = some (.float .f64 (p.1 : Nat)) ∧ wz.drew.cell? ⟨g, j * 2 + 1, none⟩ = some (.float .f64 (p.2 : Nat))) ∧ wz.drew.cell? ⟨bA, oA + j, none⟩ = some (.float .f64 (ua : Nat))) ∧ wz.drew.cell? ⟨bB, oB + j, none⟩ = some (.float .f64 (ub : Nat)))
                    refine Takes.intro [0,1,2,3,4,5,6,7,8] ?_
                    repeat (refine Takes.step (v := ?_) (by kernel_rfl) rfl (fun _ _ _ h => h) rfl hS0 (fun w hSw => by (try dsimp only at hSw); go_simp; try with_reducible rfl) ?_; try simp only [List.getElem_toArray, List.getElem_cons_zero, List.getElem_cons_succ, Act.put, List.setIfInBounds_toArray, List.set_cons_zero, List.set_cons_succ])
                    refine Takes.nil ?_
                    refine wpAnyS_one (i := 9) (by kernel_rfl) rfl rfl (fun K hK => ?_)
                    go_simp
                    refine (bit_any _ _ _ HBT.out.1).mono ?_
                    rintro z wx ⟨rfl, rfl⟩
                    have hS1 := hS0
                    refine hK.out _ _ (fun _ => hS1) ?_
                    clear hK K
                    try simp only [List.getElem_toArray, List.getElem_cons_zero, List.getElem_cons_succ, Act.put, List.setIfInBounds_toArray, List.set_cons_zero, List.set_cons_succ]
                    refine Takes.intro [10,11,12,13,14,15,16,17,18,19,20] ?_
                    repeat (first | (refine Takes.step (v := ?_) (by kernel_rfl) rfl (fun _ _ _ h => h) rfl hS1 (fun w hSw => by (try dsimp only at hSw); go_simp; try with_reducible rfl) ?_; try simp only [List.getElem_toArray, List.getElem_cons_zero, List.getElem_cons_succ, Act.put, List.setIfInBounds_toArray, List.set_cons_zero, List.set_cons_succ]) | (refine Takes.stepG (v := ?_) (by kernel_rfl) rfl (fun _ _ _ h => h) rfl hS1 (fun w hSw => by (try dsimp only at hSw); go_simp; try with_reducible rfl) ?_; try simp only [List.getElem_toArray, List.getElem_cons_zero, List.getElem_cons_succ, Act.put, List.setIfInBounds_toArray, List.set_cons_zero, List.set_cons_succ]) | (refine Takes.skip (by kernel_rfl) rfl (fun _ _ _ h => h) rfl hS1 ?_; try simp only [List.getElem_toArray, List.getElem_cons_zero, List.getElem_cons_succ, Act.put, List.setIfInBounds_toArray, List.set_cons_zero, List.set_cons_succ]))
                    refine Takes.nil ?_
                    refine wpAnyS_end 3 21 (by kernel_rfl) (by decide) rfl ?_
                    simp only [List.toList_toArray, List.drop_succ_cons, List.drop_zero]
                    clear hS0 hS1
                    go_wp2_with fail
                    refine (bit_any _ _ _ HBT.out.2).mono ?_
                    rintro z wx ⟨rfl, rfl⟩
                    go_wp2
                    exact ⟨⟨j + 1, by omega, by go_num, Lib.hid hby.out.drew⟩, by simp [intOf]; omega⟩
                  · obtain rfl : j = n := by omega
                    have HB4 : Hid (Below wI.heap.size wI wz) := Lib.hid (HB3.out.trans (hby.out.mono HB3.out.size))
                    go_wp2
                    exact ⟨⟨q + 1, by omega, by go_num, HB4⟩, by simp [intOf]; omega⟩
              · have t4 : ¬ (k : Int) = (l : Int) := fun e => t3 (Int.ofNat.inj e)
                have e : wholeE k (n : Int) = 4 := by unfold wholeE; rw [if_neg t1, hai, hli]; exact if_pos t4
                rw [e] at HW
                have t5 : ((k : Int) != (l : Int)) = true := bne_iff_ne.2 t4
                clear e t1 hmb ha hl hl9 hn9 hai hli n1 n2 t3
                go_wp2_with fail
                refine HW.out.mono ?_
                rintro z w2 ⟨⟨-, rfl⟩ | ⟨h0, -⟩, hb2⟩
                · have HB2 : Hid (Below wI.heap.size wI w2) := Lib.hid (hbz.out.trans (hb2.mono hbz.out.size))
                  clear hb2 HW hbz
                  go_wp2
                  exact ⟨⟨q + 1, by omega, by go_num, HB2⟩, by simp [intOf]; omega⟩
                · exact absurd h0 (by decide)
          · obtain rfl : q = 3 := by omega
            have HB4 : Hid (Below w.heap.size w wz) := Lib.hid (HBI.out.trans (hbz.out.mono HBI.out.size))
            clear hbz
            go_wp2_with fail
            refine (wakes21_any _).mono ?_
            rintro z w2 ⟨rfl, hb2⟩
            have HB5 : Hid (Below w.heap.size w w2) := Lib.hid (HB4.out.trans (hb2.mono HB4.out.size))
            clear hb2
            have H1 := Lib.hid (HWants_any x w2)
            have H2 := Lib.hid (refHWants_any x w2)
            obtain ⟨vw, hvw⟩ : ∃ vw, wantsI x = vw := ⟨_, rfl⟩
            rw [hvw] at H1 H2
            clear hvw
            go_wp2_with fail
            refine H1.out.mono ?_
            rintro z w3 ⟨rfl, rfl⟩
            go_wp2_with fail
            refine H2.out.mono ?_
            rintro z w3 ⟨rfl, rfl⟩
            go_wp2
            go_ret
            exact ⟨rfl, HB5.out⟩
end Go.Proofs.YtmgfaeineklccaaGreat
