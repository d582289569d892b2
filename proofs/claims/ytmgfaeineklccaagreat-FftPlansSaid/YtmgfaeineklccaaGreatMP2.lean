/- Contracts: shape.check, with the number of the node that it stops at. -/
import Derived.Test.YtmgfaeineklccaaGreatMC2
import Derived.Test.YtmgfaeineklccaaGreatMC4
import Derived.Test.YtmgfaeineklccaaGreatMC3
set_option linter.unusedSimpArgs false
set_option linter.unusedVariables false
namespace Go.Proofs.YtmgfaeineklccaaGreat
open Go.RowKit Go.Lib

/-- The number at which the check of plans stops, or the one behind them. -/
def Fo.numb : Fo → List Int → Bool → Int → Int
  | .nil, _, _, m => m
  | .cons kind n r kids rest, ws, blue, m =>
    if nodeE kind n r kids.len (ws.headD 0) blue ≠ 0 then m
    else if kids.bad (wantsF kind n r) (blue || kind == 4) ≠ 0 then kids.numb (wantsF kind n r) (blue || kind == 4) (m + 1) else rest.numb ws.tail blue (kids.numb (wantsF kind n r) (blue || kind == 4) (m + 1))
theorem numb_cons (kind n r : Int) (kids rest : Fo) (ws : List Int) (blue : Bool) (m : Int) :
    (Fo.cons kind n r kids rest).numb ws blue m = if (Fo.cons kind n r kids .nil).bad [ws.headD 0] blue ≠ 0 then (Fo.cons kind n r kids .nil).numb [ws.headD 0] blue m else rest.numb ws.tail blue ((Fo.cons kind n r kids .nil).numb [ws.headD 0] blue m) := by
  simp only [Fo.numb, Fo.bad, List.headD_cons]
  (repeat' split) <;> first | rfl | omega
theorem numb_le : ∀ (fo : Fo) (ws : List Int) (blue : Bool) (m : Int), m ≤ fo.numb ws blue m ∧ fo.numb ws blue m ≤ m + fo.count
  | .nil, _, _, m => by unfold Fo.numb Fo.count; omega
  | .cons kind n r kids rest, ws, blue, m => by
    have h1 := numb_le kids (wantsF kind n r) (blue || kind == 4) (m + 1)
    have h2 := numb_le rest ws.tail blue (kids.numb (wantsF kind n r) (blue || kind == 4) (m + 1))
    unfold Fo.numb Fo.count
    (repeat' split) <;> omega
/-- What a loop over kids keeps. -/
def NumI (q : Fo) (L : List Int) (b : Bool) (i : Nat) (nx m : Int) : Prop := (q.drop i).numb (L.drop i) b nx = q.numb L b (m + 1) ∧ nx + (q.drop i).count ≤ m + 1 + q.count ∧ m + 1 ≤ nx
theorem numI_start (q : Fo) (L : List Int) (b : Bool) (m n1 : Int) (h : n1 = m + 1) : NumI q L b 0 n1 m := by
  subst h
  exact ⟨rfl, Int.le_refl _, Int.le_refl _⟩
theorem numI_step {q : Fo} {L : List Int} {b : Bool} {i : Nat} {nx m : Int} {k n r : Int} {q' rest : Fo} (h : NumI q L b i nx m) (hd : q.drop i = .cons k n r q' rest) :
    ((Fo.cons k n r q' .nil).bad [L.getD i 0] b = 0 → NumI q L b (i + 1) ((Fo.cons k n r q' .nil).numb [L.getD i 0] b nx) m) ∧ ((Fo.cons k n r q' .nil).bad [L.getD i 0] b ≠ 0 → q.numb L b (m + 1) = (Fo.cons k n r q' .nil).numb [L.getD i 0] b nx) ∧ nx + (1 + q'.count) ≤ m + 1 + q.count := by
  obtain ⟨h1, h2, h3⟩ := h
  have hx : (L.drop i).headD 0 = L.getD i 0 := by rw [List.getD_eq_getElem?_getD, List.headD_eq_head?_getD, List.head?_drop]
  have hc := count_drop hd
  have hle := numb_le (Fo.cons k n r q' .nil) [L.getD i 0] b nx
  have e1 : (Fo.cons k n r q' .nil).count = 1 + q'.count := by show 1 + q'.count + 0 = 1 + q'.count; omega
  rw [e1] at hle
  rw [hc] at h2
  rw [hd, numb_cons, hx, List.tail_drop] at h1
  refine ⟨fun h0 => ?_, fun h0 => ?_, by omega⟩
  · rw [if_neg (by rw [h0]; simp)] at h1
    refine ⟨?_, by omega, by omega⟩
    rw [drop_succ i q hd]
    exact h1
  · rw [if_pos h0] at h1
    exact h1.symm

/-- What check says of a plan, to the number. -/
def ChkM (kind n r : Int) (q : Fo) : Prop := ∀ (w : World) (A : Option Addr) (c : Nat) (want number : Int) (blue : Bool), Kids w A 0 q → 1 ≤ want → want ≤ 32768 → 0 ≤ number → number + 1 + q.count ≤ 1099511627776 →
  Calls Tryz.prog 153 #[plV kind n r A q.len c, .int .i64 want, .int .i64 number, .bool blue] w fun z w' => (∃ a : Int, z = .returned (.tuple #[.int .i64 a, .int .i64 ((Fo.cons kind n r q .nil).bad [want] blue)]) ∧ a = (Fo.cons kind n r q .nil).numb [want] blue number) ∧ Below w.heap.size w w'

set_option maxRecDepth 100000 in
set_option maxHeartbeats 4000000 in
theorem checkM_all : ∀ fo : Fo, fo.all ChkM := Fo.all_of fun kind n r q ih => by
  intro w A c want number blue hk h1 h2 h3 h4
  have HNB : Hid ((Fo.cons kind n r q .nil).numb [want] blue number = if nodeE kind n r q.len want blue ≠ 0 then number else q.numb (wantsF kind n r) (blue || kind == 4) (number + 1)) := Lib.hid (by
    simp only [Fo.numb, List.headD_cons]
    (repeat' split) <;> first | rfl | omega)
  rw [HNB.out]
  obtain ⟨n1, hn1⟩ : ∃ n1, wrap64 (number + 1) = n1 := ⟨_, rfl⟩
  have HN1 : Hid (n1 = number + 1) := Lib.hid (by rw [← hn1]; unfold wrap64; omega)
  have HNR : Hid (0 ≤ number ∧ number + 1 + (q.count : Int) ≤ 1099511627776) := Lib.hid ⟨h3, h4⟩
  clear h3 h4 HNB
  have HN := Lib.hid (fun w => node_any kind n r A q.len c want blue w h1 h2)
  have HBAD : Hid ((Fo.cons kind n r q .nil).bad [want] blue = if nodeE kind n r q.len want blue ≠ 0 then nodeE kind n r q.len want blue else q.bad (wantsF kind n r) (blue || kind == 4)) := Lib.hid (by
    simp only [Fo.bad, List.headD_cons]
    (repeat' split) <;> first | rfl | omega)
  rw [HBAD.out]
  have HK := Lib.hid hk
  have HIH := Lib.hid ih
  by_cases he : nodeE kind n r q.len want blue = 0
  · -- nothing is wrong with the node itself
    rw [if_neg (by simp [he]), if_neg (by simp [he])]
    have hwn := node_wants he h1 h2
    have hn4 := node_n4 he
    obtain ⟨-, -, -, hnw, -, hql, -⟩ := nodeE_zero he
    rw [he] at HN
    have HWA := Lib.hid (fun w => Wants_any kind n r A q.len c w (by omega) (by omega) hn4)
    have hlen : (wantsF kind n r).length ≤ 2 := by
      unfold wantsF
      (repeat' split) <;> simp
    generalize wantsF kind n r = L at *
    have HQ := Lib.hid hql
    have HWN := Lib.hid hwn
    obtain ⟨m, hm⟩ : ∃ m, L.length = m := ⟨_, rfl⟩
    have HM := Lib.hid hm
    rw [hm] at hlen hql
    have HQL : Hid (q.len = m) := Lib.hid hql
    have e4 : ∃ b4, (kind == 4) = b4 := ⟨_, rfl⟩
    obtain ⟨b4, e4⟩ := e4
    rw [e4]
    clear he hwn hn4 hnw HBAD hk ih hm h1 h2
    have HWC : Hid (∀ w, Calls Tryz.prog 161 #[plV kind n r A q.len c] w (fun z w' => (∃ A', z = .returned (.slice A' m m) ∧ IntsAt w' A' m (fun i => L.getD i 0)) ∧ Below w.heap.size w w')) := Lib.hid (fun w => by
      have := HWA.out w
      unfold WantsC at this
      rw [HM.out] at this
      refine this.mono ?_
      rintro z w' ⟨⟨A', e, hA, -⟩, hb⟩
      exact ⟨⟨A', e, hA⟩, hb⟩)
    clear HWA
    have ql : (q.len : Int) = m := by omega
    clear hql
    cases blue <;> cases b4
    · have hb4' : (kind == 4) = false := e4
      go_enter Tryz.func153, Tryz.ntmps153
      go_wp2_with fail
      have hP0 := PlBox.new w kind n r A q.len c 27
      have hB0 : w.heap.size < (w.alloc (.cells #[.int .i64 kind, .int .i64 n, .int .i64 r, .slice A q.len c] 27)).heap.size ∧ Below w.heap.size w (w.alloc (.cells #[.int .i64 kind, .int .i64 n, .int .i64 r, .slice A q.len c] 27)) := ⟨by simp, (Below.refl _ w).alloc (Nat.le_refl _) _⟩
      generalize hW : w.alloc (.cells #[.int .i64 kind, .int .i64 n, .int .i64 r, .slice A q.len c] 27) = W at *
      refine (HN.out _).mono ?_
      rintro z w1 ⟨rfl, hb1⟩
      have hP1 := hP0.below hb1
      have HB1 : Hid (w.heap.size < w1.heap.size ∧ Below w.heap.size w w1) := Lib.hid ⟨Nat.lt_of_lt_of_le hB0.1 hb1.size, hB0.2.trans (hb1.mono (by omega))⟩
      have HP1 := Lib.hid hP1
      obtain ⟨p0, p1, p2, p3⟩ := hP1
      clear hb1 hP0 hB0 hW
      go_wp2_with fail
      refine (HWC.out _).mono ?_
      rintro z w2 ⟨⟨A', rfl, hA'⟩, hb2⟩
      have HP2 := Lib.hid (HP1.out.below hb2)
      have HB2 : Hid (w.heap.size < w2.heap.size ∧ Below w.heap.size w w2) := Lib.hid ⟨Nat.lt_of_lt_of_le HB1.out.1 hb2.size, HB1.out.2.trans (hb2.mono (by have := HB1.out.1; omega))⟩
      have HA := Lib.hid hA'
      clear hA' hb2 p0 p1 p2 p3 HP1 HB1
      go_wp2
      go_loopw [11, 28] (fun vn vi wr => ∃ (i : Nat) (nx : Int), i ≤ m ∧ vi = .int .i64 i ∧ vn = .int .i64 nx ∧ Hid (q.badTo i L false = 0) ∧ Hid (NumI q L false i nx number) ∧ Hid (Below w2.heap.size w2 wr)) (fun _ vi _ => m - (intOf vi).toNat)
      case atStart => exact ⟨0, _, Nat.zero_le _, rfl, rfl, Lib.hid rfl, Lib.hid (numI_start _ _ _ _ _ HN1.out), Lib.hid (Below.refl _ _)⟩
      case round =>
        obtain ⟨i, nx, hi, rfl, rfl, hbad, hnum, hbw⟩ := hrel
        by_cases hlt : i < m
        · have hlti : (i : Int) < m := by omega
          obtain ⟨bw, ow, rfl, hcw⟩ := HA.out i hlt
          have hcw' : wr.cell? ⟨bw, ow + i, none⟩ = some (.int .i64 (L.getD i 0)) := keep_cell hbw.out hcw
          obtain ⟨k', n', r', q', rest, hd⟩ := drop_lt i q (by have := HQL.out; omega)
          have hstep := badTo_step i q L false hd
          rw [hbad.out, if_neg (by simp)] at hstep
          obtain ⟨bA, oA, B', c', rfl, k0, k1, k2, k3, k5⟩ := HK.out.at' hd
          have hwr : Below w.heap.size w wr := HB2.out.2.trans (hbw.out.mono (by have := HB2.out.1; omega))
          have HKA : Hid (KidAt wr w.heap.size kind n r (some ⟨bA, oA, none⟩) q.len c bA oA i k' n' r' B' q'.len c') := Lib.hid (by
            obtain ⟨a0, a1, a2, a3⟩ := HP2.out.below hbw.out
            exact ⟨a0, a1, a2, a3, keep_cell hwr k0, keep_cell hwr k1, keep_cell hwr k2, keep_cell hwr k3⟩)
          have HKB := Lib.hid (k5.below hwr)
          have HCK := Lib.hid (Fo.all_at HIH.out hd)
          have hns := numI_step hnum.out hd
          have HNC : Hid (0 ≤ nx ∧ nx + 1 + (q'.count : Int) ≤ 1099511627776) := Lib.hid ⟨by have := hnum.out.2.2; have := HNR.out.1; omega, by have := hns.2.2; have := HNR.out.2; omega⟩
          have hns := And.intro hns.1 hns.2.1
          have hx : (L.drop i).headD 0 = L.getD i 0 := by
            rw [List.getD_eq_getElem?_getD, List.headD_eq_head?_getD, List.head?_drop]
          rw [hx] at hstep
          have HXB : Hid (1 ≤ L.getD i 0 ∧ L.getD i 0 ≤ 32768) := Lib.hid (by
            refine HWN.out _ ?_
            rw [List.getD_eq_getElem?_getD, List.getElem?_eq_getElem (by have := HM.out; omega)]
            exact List.getElem_mem _)
          have hql2 : (i : Int) < (q.len : Int) := by omega
          obtain ⟨xv, hxv⟩ : ∃ xv, L.getD i 0 = xv := ⟨_, rfl⟩
          rw [hxv] at hstep HXB hcw' hns
          obtain ⟨eb, heb⟩ : ∃ eb, (Fo.cons k' n' r' q' .nil).bad [xv] false = eb := ⟨_, rfl⟩
          have HEB := Lib.hid heb
          rw [heb] at hns
          have HNS := Lib.hid hns
          rw [heb] at hstep
          have HST := Lib.hid hstep
          have hqlw : IntKind.i64.wrap (q.len : Int) = q.len := by rw [IntKind.wrap_i64]; omega
          clear hcw k0 k1 k2 k3 k5 hwr hd hx hxv heb hstep hbad hnum hns HA
          go_upto_region 9 with (fail)
          clear hcw'
          refine wp_region_S (fun w' => w'.cell? ⟨w.heap.size, 0, none⟩ = some (.int .i64 kind) ∧ w'.cell? ⟨w.heap.size, 1, none⟩ = some (.int .i64 n) ∧ w'.cell? ⟨w.heap.size, 2, none⟩ = some (.int .i64 r) ∧ w'.cell? ⟨w.heap.size, 3, none⟩ = some (.slice (some ⟨bA, oA, none⟩) q.len c) ∧ w'.cell? ⟨bA, oA + i * 4, none⟩ = some (.int .i64 k') ∧ w'.cell? ⟨bA, oA + i * 4 + 1, none⟩ = some (.int .i64 n') ∧ w'.cell? ⟨bA, oA + i * 4 + 2, none⟩ = some (.int .i64 r') ∧ w'.cell? ⟨bA, oA + i * 4 + 3, none⟩ = some (.slice B' q'.len c')) 18 (by kernel_rfl) ?_
          have hS0 := (HKA.out.keep (Below.refl _ wr).drew : KidAt wr.drew w.heap.size kind n r (some ⟨bA, oA, none⟩) q.len c bA oA i k' n' r' B' q'.len c')
          refine wpAnyS_take (i := 0) (v := ?_) (by kernel_rfl) rfl (fun _ _ _ h => h) rfl hS0 (fun w hSw => by (try dsimp only at hSw); go_simp; try with_reducible rfl) ?_
          try simp only [List.getElem_toArray, List.getElem_cons_zero, List.getElem_cons_succ, Act.put, List.setIfInBounds_toArray, List.set_cons_zero, List.set_cons_succ]
          refine wpAnyS_take (i := 1) (v := ?_) (by kernel_rfl) rfl (fun _ _ _ h => h) rfl hS0 (fun w hSw => by (try dsimp only at hSw); go_simp; try with_reducible rfl) ?_
          try simp only [List.getElem_toArray, List.getElem_cons_zero, List.getElem_cons_succ, Act.put, List.setIfInBounds_toArray, List.set_cons_zero, List.set_cons_succ]
          refine wpAnyS_take (i := 2) (v := ?_) (by kernel_rfl) rfl (fun _ _ _ h => h) rfl hS0 (fun w hSw => by (try dsimp only at hSw); go_simp; try with_reducible rfl) ?_
          try simp only [List.getElem_toArray, List.getElem_cons_zero, List.getElem_cons_succ, Act.put, List.setIfInBounds_toArray, List.set_cons_zero, List.set_cons_succ]
          refine wpAnyS_take (i := 3) (v := ?_) (by kernel_rfl) rfl (fun _ _ _ h => h) rfl hS0 (fun w hSw => by (try dsimp only at hSw); go_simp; try with_reducible rfl) ?_
          try simp only [List.getElem_toArray, List.getElem_cons_zero, List.getElem_cons_succ, Act.put, List.setIfInBounds_toArray, List.set_cons_zero, List.set_cons_succ]
          refine wpAnyS_take (i := 4) (v := ?_) (by kernel_rfl) rfl (fun _ _ _ h => h) rfl hS0 (fun w hSw => by (try dsimp only at hSw); go_simp; try with_reducible rfl) ?_
          try simp only [List.getElem_toArray, List.getElem_cons_zero, List.getElem_cons_succ, Act.put, List.setIfInBounds_toArray, List.set_cons_zero, List.set_cons_succ]
          refine wpAnyS_take (i := 5) (v := ?_) (by kernel_rfl) rfl (fun _ _ _ h => h) rfl hS0 (fun w hSw => by (try dsimp only at hSw); go_simp; try with_reducible rfl) ?_
          try simp only [List.getElem_toArray, List.getElem_cons_zero, List.getElem_cons_succ, Act.put, List.setIfInBounds_toArray, List.set_cons_zero, List.set_cons_succ]
          refine wpAnyS_take (i := 6) (v := ?_) (by kernel_rfl) rfl (fun _ _ _ h => h) rfl hS0 (fun w hSw => by (try dsimp only at hSw); go_simp; try with_reducible rfl) ?_
          try simp only [List.getElem_toArray, List.getElem_cons_zero, List.getElem_cons_succ, Act.put, List.setIfInBounds_toArray, List.set_cons_zero, List.set_cons_succ]
          refine wpAnyS_take (i := 7) (v := ?_) (by kernel_rfl) rfl (fun _ _ _ h => h) rfl hS0 (fun w hSw => by (try dsimp only at hSw); go_simp; try with_reducible rfl) ?_
          try simp only [List.getElem_toArray, List.getElem_cons_zero, List.getElem_cons_succ, Act.put, List.setIfInBounds_toArray, List.set_cons_zero, List.set_cons_succ]
          refine wpAnyS_take (i := 8) (v := ?_) (by kernel_rfl) rfl (fun _ _ _ h => h) rfl hS0 (fun w hSw => by (try dsimp only at hSw); go_simp; try with_reducible rfl) ?_
          try simp only [List.getElem_toArray, List.getElem_cons_zero, List.getElem_cons_succ, Act.put, List.setIfInBounds_toArray, List.set_cons_zero, List.set_cons_succ]
          refine wpAnyS_takeG (i := 9) (v := ?_) (by kernel_rfl) rfl (fun _ _ _ h => h) rfl hS0 (fun w hSw => by (try dsimp only at hSw); go_simp; try with_reducible rfl) ?_
          try simp only [List.getElem_toArray, List.getElem_cons_zero, List.getElem_cons_succ, Act.put, List.setIfInBounds_toArray, List.set_cons_zero, List.set_cons_succ]
          refine wpAnyS_takeG (i := 10) (v := ?_) (by kernel_rfl) rfl (fun _ _ _ h => h) rfl hS0 (fun w hSw => by (try dsimp only at hSw); go_simp; try with_reducible rfl) ?_
          try simp only [List.getElem_toArray, List.getElem_cons_zero, List.getElem_cons_succ, Act.put, List.setIfInBounds_toArray, List.set_cons_zero, List.set_cons_succ]
          refine wpAnyS_takeG (i := 11) (v := ?_) (by kernel_rfl) rfl (fun _ _ _ h => h) rfl hS0 (fun w hSw => by (try dsimp only at hSw); go_simp; try with_reducible rfl) ?_
          try simp only [List.getElem_toArray, List.getElem_cons_zero, List.getElem_cons_succ, Act.put, List.setIfInBounds_toArray, List.set_cons_zero, List.set_cons_succ]
          refine wpAnyS_take (i := 12) (v := ?_) (by kernel_rfl) rfl (fun _ _ _ h => h) rfl hS0 (fun w hSw => by (try dsimp only at hSw); go_simp; try with_reducible rfl) ?_
          try simp only [List.getElem_toArray, List.getElem_cons_zero, List.getElem_cons_succ, Act.put, List.setIfInBounds_toArray, List.set_cons_zero, List.set_cons_succ]
          refine wpAnyS_one (i := 13) (by kernel_rfl) rfl rfl (fun K hK => ?_)
          go_simp
          refine (HCK.out wr.drew B' c' _ _ _ (HKB.out.below (Below.refl _ wr).drew) HXB.out.1 HXB.out.2 HNC.out.1 HNC.out.2).mono ?_
          rintro z w3 ⟨⟨aa, rfl, haa⟩, hb3⟩
          have HAA := Lib.hid haa
          clear haa HNC
          have hS1 : KidAt w3 w.heap.size kind n r (some ⟨bA, oA, none⟩) q.len c bA oA i k' n' r' B' q'.len c' := (HKA.out.keep (Below.refl _ wr).drew).keep hb3
          have HB3 := Lib.hid ((Below.refl _ wr).drew.trans (hb3.mono (Nat.le_refl _)))
          clear hb3
          refine hK.out _ _ (fun _ => hS1) ?_
          clear hK K
          try simp only [List.getElem_toArray, List.getElem_cons_zero, List.getElem_cons_succ, Act.put, List.setIfInBounds_toArray, List.set_cons_zero, List.set_cons_succ]
          refine wpAnyS_take (i := 14) (v := ?_) (by kernel_rfl) rfl (fun _ _ _ h => h) rfl hS1 (fun w hSw => by (try dsimp only at hSw); go_simp; try with_reducible rfl) ?_
          try simp only [List.getElem_toArray, List.getElem_cons_zero, List.getElem_cons_succ, Act.put, List.setIfInBounds_toArray, List.set_cons_zero, List.set_cons_succ]
          refine wpAnyS_take (i := 15) (v := ?_) (by kernel_rfl) rfl (fun _ _ _ h => h) rfl hS1 (fun w hSw => by (try dsimp only at hSw); go_simp; try with_reducible rfl) ?_
          try simp only [List.getElem_toArray, List.getElem_cons_zero, List.getElem_cons_succ, Act.put, List.setIfInBounds_toArray, List.set_cons_zero, List.set_cons_succ]
          refine wpAnyS_take (i := 16) (v := ?_) (by kernel_rfl) rfl (fun _ _ _ h => h) rfl hS1 (fun w hSw => by (try dsimp only at hSw); go_simp; try with_reducible rfl) ?_
          try simp only [List.getElem_toArray, List.getElem_cons_zero, List.getElem_cons_succ, Act.put, List.setIfInBounds_toArray, List.set_cons_zero, List.set_cons_succ]
          refine wpAnyS_take (i := 17) (v := ?_) (by kernel_rfl) rfl (fun _ _ _ h => h) rfl hS1 (fun w hSw => by (try dsimp only at hSw); go_simp; try with_reducible rfl) ?_
          try simp only [List.getElem_toArray, List.getElem_cons_zero, List.getElem_cons_succ, Act.put, List.setIfInBounds_toArray, List.set_cons_zero, List.set_cons_succ]
          refine wpAnyS_end 1 18 (by kernel_rfl) (by decide) rfl ?_
          simp only [List.toList_toArray, List.drop_succ_cons, List.drop_zero]
          have HEB' : Hid (eb = (Fo.cons k' n' r' q' .nil).bad [xv] false) := Lib.hid HEB.out.symm
          have HBN : Hid (Below w2.heap.size w2 w3) := Lib.hid (hbw.out.trans (HB3.out.mono hbw.out.size))
          simp only [HEB.out]
          clear hS0 hS1 HKA HKB hbw HB3
          by_cases h0 : eb = 0
          · subst h0
            go_wp2
            exact ⟨⟨i + 1, aa, by omega, by go_num, rfl, HST, Lib.hid (by rw [HAA.out]; exact HNS.out.1 rfl), HBN⟩, by simp [intOf]; omega⟩
          · have h0i : (eb != 0) = true := by simpa using h0
            have HF : Hid (q.bad L false = eb) := Lib.hid (by
              have := badTo_stop (i + 1) q L false (by rw [HST.out]; exact h0)
              rw [this, HST.out])
            have HNF := Lib.hid (HNS.out.2 h0)
            clear h0
            go_wp2
            go_ret2
            exact ⟨⟨aa, by rw [show ((false : Bool) || false) = false from rfl, HF.out]; rfl, by rw [show ((false : Bool) || false) = false from rfl, HNF.out, HAA.out]⟩, HB2.out.2.trans (HBN.out.mono (by have := HB2.out.1; omega))⟩
        · obtain rfl : i = m := by omega
          have HF : Hid (q.bad L false = 0) := Lib.hid (by rw [← badTo_len i q L false (by have := HQL.out; omega)]; exact hbad.out)
          clear hbad
          go_wp2
          go_ret2
          exact ⟨⟨nx, by rw [show ((false : Bool) || false) = false from rfl, HF.out]; rfl, by rw [show ((false : Bool) || false) = false from rfl, ← hnum.out.1, drop_end _ _ (by have := HQL.out; omega)]; rfl⟩, HB2.out.2.trans (hbw.out.mono (by have := HB2.out.1; omega))⟩
    · have hb4' : (kind == 4) = true := e4
      go_enter Tryz.func153, Tryz.ntmps153
      go_wp2_with fail
      have hP0 := PlBox.new w kind n r A q.len c 27
      have hB0 : w.heap.size < (w.alloc (.cells #[.int .i64 kind, .int .i64 n, .int .i64 r, .slice A q.len c] 27)).heap.size ∧ Below w.heap.size w (w.alloc (.cells #[.int .i64 kind, .int .i64 n, .int .i64 r, .slice A q.len c] 27)) := ⟨by simp, (Below.refl _ w).alloc (Nat.le_refl _) _⟩
      generalize hW : w.alloc (.cells #[.int .i64 kind, .int .i64 n, .int .i64 r, .slice A q.len c] 27) = W at *
      refine (HN.out _).mono ?_
      rintro z w1 ⟨rfl, hb1⟩
      have hP1 := hP0.below hb1
      have HB1 : Hid (w.heap.size < w1.heap.size ∧ Below w.heap.size w w1) := Lib.hid ⟨Nat.lt_of_lt_of_le hB0.1 hb1.size, hB0.2.trans (hb1.mono (by omega))⟩
      have HP1 := Lib.hid hP1
      obtain ⟨p0, p1, p2, p3⟩ := hP1
      clear hb1 hP0 hB0 hW
      go_wp2_with fail
      refine (HWC.out _).mono ?_
      rintro z w2 ⟨⟨A', rfl, hA'⟩, hb2⟩
      have HP2 := Lib.hid (HP1.out.below hb2)
      have HB2 : Hid (w.heap.size < w2.heap.size ∧ Below w.heap.size w w2) := Lib.hid ⟨Nat.lt_of_lt_of_le HB1.out.1 hb2.size, HB1.out.2.trans (hb2.mono (by have := HB1.out.1; omega))⟩
      have HA := Lib.hid hA'
      clear hA' hb2 p0 p1 p2 p3 HP1 HB1
      go_wp2
      go_loopw [11, 28] (fun vn vi wr => ∃ (i : Nat) (nx : Int), i ≤ m ∧ vi = .int .i64 i ∧ vn = .int .i64 nx ∧ Hid (q.badTo i L true = 0) ∧ Hid (NumI q L true i nx number) ∧ Hid (Below w2.heap.size w2 wr)) (fun _ vi _ => m - (intOf vi).toNat)
      case atStart => exact ⟨0, _, Nat.zero_le _, rfl, rfl, Lib.hid rfl, Lib.hid (numI_start _ _ _ _ _ HN1.out), Lib.hid (Below.refl _ _)⟩
      case round =>
        obtain ⟨i, nx, hi, rfl, rfl, hbad, hnum, hbw⟩ := hrel
        by_cases hlt : i < m
        · have hlti : (i : Int) < m := by omega
          obtain ⟨bw, ow, rfl, hcw⟩ := HA.out i hlt
          have hcw' : wr.cell? ⟨bw, ow + i, none⟩ = some (.int .i64 (L.getD i 0)) := keep_cell hbw.out hcw
          obtain ⟨k', n', r', q', rest, hd⟩ := drop_lt i q (by have := HQL.out; omega)
          have hstep := badTo_step i q L true hd
          rw [hbad.out, if_neg (by simp)] at hstep
          obtain ⟨bA, oA, B', c', rfl, k0, k1, k2, k3, k5⟩ := HK.out.at' hd
          have hwr : Below w.heap.size w wr := HB2.out.2.trans (hbw.out.mono (by have := HB2.out.1; omega))
          have HKA : Hid (KidAt wr w.heap.size kind n r (some ⟨bA, oA, none⟩) q.len c bA oA i k' n' r' B' q'.len c') := Lib.hid (by
            obtain ⟨a0, a1, a2, a3⟩ := HP2.out.below hbw.out
            exact ⟨a0, a1, a2, a3, keep_cell hwr k0, keep_cell hwr k1, keep_cell hwr k2, keep_cell hwr k3⟩)
          have HKB := Lib.hid (k5.below hwr)
          have HCK := Lib.hid (Fo.all_at HIH.out hd)
          have hns := numI_step hnum.out hd
          have HNC : Hid (0 ≤ nx ∧ nx + 1 + (q'.count : Int) ≤ 1099511627776) := Lib.hid ⟨by have := hnum.out.2.2; have := HNR.out.1; omega, by have := hns.2.2; have := HNR.out.2; omega⟩
          have hns := And.intro hns.1 hns.2.1
          have hx : (L.drop i).headD 0 = L.getD i 0 := by
            rw [List.getD_eq_getElem?_getD, List.headD_eq_head?_getD, List.head?_drop]
          rw [hx] at hstep
          have HXB : Hid (1 ≤ L.getD i 0 ∧ L.getD i 0 ≤ 32768) := Lib.hid (by
            refine HWN.out _ ?_
            rw [List.getD_eq_getElem?_getD, List.getElem?_eq_getElem (by have := HM.out; omega)]
            exact List.getElem_mem _)
          have hql2 : (i : Int) < (q.len : Int) := by omega
          obtain ⟨xv, hxv⟩ : ∃ xv, L.getD i 0 = xv := ⟨_, rfl⟩
          rw [hxv] at hstep HXB hcw' hns
          obtain ⟨eb, heb⟩ : ∃ eb, (Fo.cons k' n' r' q' .nil).bad [xv] true = eb := ⟨_, rfl⟩
          have HEB := Lib.hid heb
          rw [heb] at hns
          have HNS := Lib.hid hns
          rw [heb] at hstep
          have HST := Lib.hid hstep
          have hqlw : IntKind.i64.wrap (q.len : Int) = q.len := by rw [IntKind.wrap_i64]; omega
          clear hcw k0 k1 k2 k3 k5 hwr hd hx hxv heb hstep hbad hnum hns HA
          go_upto_region 9 with (fail)
          clear hcw'
          refine wp_region_S (fun w' => w'.cell? ⟨w.heap.size, 0, none⟩ = some (.int .i64 kind) ∧ w'.cell? ⟨w.heap.size, 1, none⟩ = some (.int .i64 n) ∧ w'.cell? ⟨w.heap.size, 2, none⟩ = some (.int .i64 r) ∧ w'.cell? ⟨w.heap.size, 3, none⟩ = some (.slice (some ⟨bA, oA, none⟩) q.len c) ∧ w'.cell? ⟨bA, oA + i * 4, none⟩ = some (.int .i64 k') ∧ w'.cell? ⟨bA, oA + i * 4 + 1, none⟩ = some (.int .i64 n') ∧ w'.cell? ⟨bA, oA + i * 4 + 2, none⟩ = some (.int .i64 r') ∧ w'.cell? ⟨bA, oA + i * 4 + 3, none⟩ = some (.slice B' q'.len c')) 18 (by kernel_rfl) ?_
          have hS0 := (HKA.out.keep (Below.refl _ wr).drew : KidAt wr.drew w.heap.size kind n r (some ⟨bA, oA, none⟩) q.len c bA oA i k' n' r' B' q'.len c')
          refine wpAnyS_take (i := 0) (v := ?_) (by kernel_rfl) rfl (fun _ _ _ h => h) rfl hS0 (fun w hSw => by (try dsimp only at hSw); go_simp; try with_reducible rfl) ?_
          try simp only [List.getElem_toArray, List.getElem_cons_zero, List.getElem_cons_succ, Act.put, List.setIfInBounds_toArray, List.set_cons_zero, List.set_cons_succ]
          refine wpAnyS_take (i := 1) (v := ?_) (by kernel_rfl) rfl (fun _ _ _ h => h) rfl hS0 (fun w hSw => by (try dsimp only at hSw); go_simp; try with_reducible rfl) ?_
          try simp only [List.getElem_toArray, List.getElem_cons_zero, List.getElem_cons_succ, Act.put, List.setIfInBounds_toArray, List.set_cons_zero, List.set_cons_succ]
          refine wpAnyS_take (i := 2) (v := ?_) (by kernel_rfl) rfl (fun _ _ _ h => h) rfl hS0 (fun w hSw => by (try dsimp only at hSw); go_simp; try with_reducible rfl) ?_
          try simp only [List.getElem_toArray, List.getElem_cons_zero, List.getElem_cons_succ, Act.put, List.setIfInBounds_toArray, List.set_cons_zero, List.set_cons_succ]
          refine wpAnyS_take (i := 3) (v := ?_) (by kernel_rfl) rfl (fun _ _ _ h => h) rfl hS0 (fun w hSw => by (try dsimp only at hSw); go_simp; try with_reducible rfl) ?_
          try simp only [List.getElem_toArray, List.getElem_cons_zero, List.getElem_cons_succ, Act.put, List.setIfInBounds_toArray, List.set_cons_zero, List.set_cons_succ]
          refine wpAnyS_take (i := 4) (v := ?_) (by kernel_rfl) rfl (fun _ _ _ h => h) rfl hS0 (fun w hSw => by (try dsimp only at hSw); go_simp; try with_reducible rfl) ?_
          try simp only [List.getElem_toArray, List.getElem_cons_zero, List.getElem_cons_succ, Act.put, List.setIfInBounds_toArray, List.set_cons_zero, List.set_cons_succ]
          refine wpAnyS_take (i := 5) (v := ?_) (by kernel_rfl) rfl (fun _ _ _ h => h) rfl hS0 (fun w hSw => by (try dsimp only at hSw); go_simp; try with_reducible rfl) ?_
          try simp only [List.getElem_toArray, List.getElem_cons_zero, List.getElem_cons_succ, Act.put, List.setIfInBounds_toArray, List.set_cons_zero, List.set_cons_succ]
          refine wpAnyS_take (i := 6) (v := ?_) (by kernel_rfl) rfl (fun _ _ _ h => h) rfl hS0 (fun w hSw => by (try dsimp only at hSw); go_simp; try with_reducible rfl) ?_
          try simp only [List.getElem_toArray, List.getElem_cons_zero, List.getElem_cons_succ, Act.put, List.setIfInBounds_toArray, List.set_cons_zero, List.set_cons_succ]
          refine wpAnyS_take (i := 7) (v := ?_) (by kernel_rfl) rfl (fun _ _ _ h => h) rfl hS0 (fun w hSw => by (try dsimp only at hSw); go_simp; try with_reducible rfl) ?_
          try simp only [List.getElem_toArray, List.getElem_cons_zero, List.getElem_cons_succ, Act.put, List.setIfInBounds_toArray, List.set_cons_zero, List.set_cons_succ]
          refine wpAnyS_take (i := 8) (v := ?_) (by kernel_rfl) rfl (fun _ _ _ h => h) rfl hS0 (fun w hSw => by (try dsimp only at hSw); go_simp; try with_reducible rfl) ?_
          try simp only [List.getElem_toArray, List.getElem_cons_zero, List.getElem_cons_succ, Act.put, List.setIfInBounds_toArray, List.set_cons_zero, List.set_cons_succ]
          refine wpAnyS_takeG (i := 9) (v := ?_) (by kernel_rfl) rfl (fun _ _ _ h => h) rfl hS0 (fun w hSw => by (try dsimp only at hSw); go_simp; try with_reducible rfl) ?_
          try simp only [List.getElem_toArray, List.getElem_cons_zero, List.getElem_cons_succ, Act.put, List.setIfInBounds_toArray, List.set_cons_zero, List.set_cons_succ]
          refine wpAnyS_takeG (i := 10) (v := ?_) (by kernel_rfl) rfl (fun _ _ _ h => h) rfl hS0 (fun w hSw => by (try dsimp only at hSw); go_simp; try with_reducible rfl) ?_
          try simp only [List.getElem_toArray, List.getElem_cons_zero, List.getElem_cons_succ, Act.put, List.setIfInBounds_toArray, List.set_cons_zero, List.set_cons_succ]
          refine wpAnyS_takeG (i := 11) (v := ?_) (by kernel_rfl) rfl (fun _ _ _ h => h) rfl hS0 (fun w hSw => by (try dsimp only at hSw); go_simp; try with_reducible rfl) ?_
          try simp only [List.getElem_toArray, List.getElem_cons_zero, List.getElem_cons_succ, Act.put, List.setIfInBounds_toArray, List.set_cons_zero, List.set_cons_succ]
          refine wpAnyS_take (i := 12) (v := ?_) (by kernel_rfl) rfl (fun _ _ _ h => h) rfl hS0 (fun w hSw => by (try dsimp only at hSw); go_simp; try with_reducible rfl) ?_
          try simp only [List.getElem_toArray, List.getElem_cons_zero, List.getElem_cons_succ, Act.put, List.setIfInBounds_toArray, List.set_cons_zero, List.set_cons_succ]
          refine wpAnyS_one (i := 13) (by kernel_rfl) rfl rfl (fun K hK => ?_)
          go_simp
          refine (HCK.out wr.drew B' c' _ _ _ (HKB.out.below (Below.refl _ wr).drew) HXB.out.1 HXB.out.2 HNC.out.1 HNC.out.2).mono ?_
          rintro z w3 ⟨⟨aa, rfl, haa⟩, hb3⟩
          have HAA := Lib.hid haa
          clear haa HNC
          have hS1 : KidAt w3 w.heap.size kind n r (some ⟨bA, oA, none⟩) q.len c bA oA i k' n' r' B' q'.len c' := (HKA.out.keep (Below.refl _ wr).drew).keep hb3
          have HB3 := Lib.hid ((Below.refl _ wr).drew.trans (hb3.mono (Nat.le_refl _)))
          clear hb3
          refine hK.out _ _ (fun _ => hS1) ?_
          clear hK K
          try simp only [List.getElem_toArray, List.getElem_cons_zero, List.getElem_cons_succ, Act.put, List.setIfInBounds_toArray, List.set_cons_zero, List.set_cons_succ]
          refine wpAnyS_take (i := 14) (v := ?_) (by kernel_rfl) rfl (fun _ _ _ h => h) rfl hS1 (fun w hSw => by (try dsimp only at hSw); go_simp; try with_reducible rfl) ?_
          try simp only [List.getElem_toArray, List.getElem_cons_zero, List.getElem_cons_succ, Act.put, List.setIfInBounds_toArray, List.set_cons_zero, List.set_cons_succ]
          refine wpAnyS_take (i := 15) (v := ?_) (by kernel_rfl) rfl (fun _ _ _ h => h) rfl hS1 (fun w hSw => by (try dsimp only at hSw); go_simp; try with_reducible rfl) ?_
          try simp only [List.getElem_toArray, List.getElem_cons_zero, List.getElem_cons_succ, Act.put, List.setIfInBounds_toArray, List.set_cons_zero, List.set_cons_succ]
          refine wpAnyS_take (i := 16) (v := ?_) (by kernel_rfl) rfl (fun _ _ _ h => h) rfl hS1 (fun w hSw => by (try dsimp only at hSw); go_simp; try with_reducible rfl) ?_
          try simp only [List.getElem_toArray, List.getElem_cons_zero, List.getElem_cons_succ, Act.put, List.setIfInBounds_toArray, List.set_cons_zero, List.set_cons_succ]
          refine wpAnyS_take (i := 17) (v := ?_) (by kernel_rfl) rfl (fun _ _ _ h => h) rfl hS1 (fun w hSw => by (try dsimp only at hSw); go_simp; try with_reducible rfl) ?_
          try simp only [List.getElem_toArray, List.getElem_cons_zero, List.getElem_cons_succ, Act.put, List.setIfInBounds_toArray, List.set_cons_zero, List.set_cons_succ]
          refine wpAnyS_end 1 18 (by kernel_rfl) (by decide) rfl ?_
          simp only [List.toList_toArray, List.drop_succ_cons, List.drop_zero]
          have HEB' : Hid (eb = (Fo.cons k' n' r' q' .nil).bad [xv] true) := Lib.hid HEB.out.symm
          have HBN : Hid (Below w2.heap.size w2 w3) := Lib.hid (hbw.out.trans (HB3.out.mono hbw.out.size))
          simp only [HEB.out]
          clear hS0 hS1 HKA HKB hbw HB3
          by_cases h0 : eb = 0
          · subst h0
            go_wp2
            exact ⟨⟨i + 1, aa, by omega, by go_num, rfl, HST, Lib.hid (by rw [HAA.out]; exact HNS.out.1 rfl), HBN⟩, by simp [intOf]; omega⟩
          · have h0i : (eb != 0) = true := by simpa using h0
            have HF : Hid (q.bad L true = eb) := Lib.hid (by
              have := badTo_stop (i + 1) q L true (by rw [HST.out]; exact h0)
              rw [this, HST.out])
            have HNF := Lib.hid (HNS.out.2 h0)
            clear h0
            go_wp2
            go_ret2
            exact ⟨⟨aa, by rw [show ((false : Bool) || true) = true from rfl, HF.out]; rfl, by rw [show ((false : Bool) || true) = true from rfl, HNF.out, HAA.out]⟩, HB2.out.2.trans (HBN.out.mono (by have := HB2.out.1; omega))⟩
        · obtain rfl : i = m := by omega
          have HF : Hid (q.bad L true = 0) := Lib.hid (by rw [← badTo_len i q L true (by have := HQL.out; omega)]; exact hbad.out)
          clear hbad
          go_wp2
          go_ret2
          exact ⟨⟨nx, by rw [show ((false : Bool) || true) = true from rfl, HF.out]; rfl, by rw [show ((false : Bool) || true) = true from rfl, ← hnum.out.1, drop_end _ _ (by have := HQL.out; omega)]; rfl⟩, HB2.out.2.trans (hbw.out.mono (by have := HB2.out.1; omega))⟩
    · have hb4' : (kind == 4) = false := e4
      go_enter Tryz.func153, Tryz.ntmps153
      go_wp2_with fail
      have hP0 := PlBox.new w kind n r A q.len c 27
      have hB0 : w.heap.size < (w.alloc (.cells #[.int .i64 kind, .int .i64 n, .int .i64 r, .slice A q.len c] 27)).heap.size ∧ Below w.heap.size w (w.alloc (.cells #[.int .i64 kind, .int .i64 n, .int .i64 r, .slice A q.len c] 27)) := ⟨by simp, (Below.refl _ w).alloc (Nat.le_refl _) _⟩
      generalize hW : w.alloc (.cells #[.int .i64 kind, .int .i64 n, .int .i64 r, .slice A q.len c] 27) = W at *
      refine (HN.out _).mono ?_
      rintro z w1 ⟨rfl, hb1⟩
      have hP1 := hP0.below hb1
      have HB1 : Hid (w.heap.size < w1.heap.size ∧ Below w.heap.size w w1) := Lib.hid ⟨Nat.lt_of_lt_of_le hB0.1 hb1.size, hB0.2.trans (hb1.mono (by omega))⟩
      have HP1 := Lib.hid hP1
      obtain ⟨p0, p1, p2, p3⟩ := hP1
      clear hb1 hP0 hB0 hW
      go_wp2_with fail
      refine (HWC.out _).mono ?_
      rintro z w2 ⟨⟨A', rfl, hA'⟩, hb2⟩
      have HP2 := Lib.hid (HP1.out.below hb2)
      have HB2 : Hid (w.heap.size < w2.heap.size ∧ Below w.heap.size w w2) := Lib.hid ⟨Nat.lt_of_lt_of_le HB1.out.1 hb2.size, HB1.out.2.trans (hb2.mono (by have := HB1.out.1; omega))⟩
      have HA := Lib.hid hA'
      clear hA' hb2 p0 p1 p2 p3 HP1 HB1
      go_wp2
      go_loopw [11, 28] (fun vn vi wr => ∃ (i : Nat) (nx : Int), i ≤ m ∧ vi = .int .i64 i ∧ vn = .int .i64 nx ∧ Hid (q.badTo i L true = 0) ∧ Hid (NumI q L true i nx number) ∧ Hid (Below w2.heap.size w2 wr)) (fun _ vi _ => m - (intOf vi).toNat)
      case atStart => exact ⟨0, _, Nat.zero_le _, rfl, rfl, Lib.hid rfl, Lib.hid (numI_start _ _ _ _ _ HN1.out), Lib.hid (Below.refl _ _)⟩
      case round =>
        obtain ⟨i, nx, hi, rfl, rfl, hbad, hnum, hbw⟩ := hrel
        by_cases hlt : i < m
        · have hlti : (i : Int) < m := by omega
          obtain ⟨bw, ow, rfl, hcw⟩ := HA.out i hlt
          have hcw' : wr.cell? ⟨bw, ow + i, none⟩ = some (.int .i64 (L.getD i 0)) := keep_cell hbw.out hcw
          obtain ⟨k', n', r', q', rest, hd⟩ := drop_lt i q (by have := HQL.out; omega)
          have hstep := badTo_step i q L true hd
          rw [hbad.out, if_neg (by simp)] at hstep
          obtain ⟨bA, oA, B', c', rfl, k0, k1, k2, k3, k5⟩ := HK.out.at' hd
          have hwr : Below w.heap.size w wr := HB2.out.2.trans (hbw.out.mono (by have := HB2.out.1; omega))
          have HKA : Hid (KidAt wr w.heap.size kind n r (some ⟨bA, oA, none⟩) q.len c bA oA i k' n' r' B' q'.len c') := Lib.hid (by
            obtain ⟨a0, a1, a2, a3⟩ := HP2.out.below hbw.out
            exact ⟨a0, a1, a2, a3, keep_cell hwr k0, keep_cell hwr k1, keep_cell hwr k2, keep_cell hwr k3⟩)
          have HKB := Lib.hid (k5.below hwr)
          have HCK := Lib.hid (Fo.all_at HIH.out hd)
          have hns := numI_step hnum.out hd
          have HNC : Hid (0 ≤ nx ∧ nx + 1 + (q'.count : Int) ≤ 1099511627776) := Lib.hid ⟨by have := hnum.out.2.2; have := HNR.out.1; omega, by have := hns.2.2; have := HNR.out.2; omega⟩
          have hns := And.intro hns.1 hns.2.1
          have hx : (L.drop i).headD 0 = L.getD i 0 := by
            rw [List.getD_eq_getElem?_getD, List.headD_eq_head?_getD, List.head?_drop]
          rw [hx] at hstep
          have HXB : Hid (1 ≤ L.getD i 0 ∧ L.getD i 0 ≤ 32768) := Lib.hid (by
            refine HWN.out _ ?_
            rw [List.getD_eq_getElem?_getD, List.getElem?_eq_getElem (by have := HM.out; omega)]
            exact List.getElem_mem _)
          have hql2 : (i : Int) < (q.len : Int) := by omega
          obtain ⟨xv, hxv⟩ : ∃ xv, L.getD i 0 = xv := ⟨_, rfl⟩
          rw [hxv] at hstep HXB hcw' hns
          obtain ⟨eb, heb⟩ : ∃ eb, (Fo.cons k' n' r' q' .nil).bad [xv] true = eb := ⟨_, rfl⟩
          have HEB := Lib.hid heb
          rw [heb] at hns
          have HNS := Lib.hid hns
          rw [heb] at hstep
          have HST := Lib.hid hstep
          have hqlw : IntKind.i64.wrap (q.len : Int) = q.len := by rw [IntKind.wrap_i64]; omega
          clear hcw k0 k1 k2 k3 k5 hwr hd hx hxv heb hstep hbad hnum hns HA
          go_upto_region 9 with (fail)
          clear hcw'
          refine wp_region_S (fun w' => w'.cell? ⟨w.heap.size, 0, none⟩ = some (.int .i64 kind) ∧ w'.cell? ⟨w.heap.size, 1, none⟩ = some (.int .i64 n) ∧ w'.cell? ⟨w.heap.size, 2, none⟩ = some (.int .i64 r) ∧ w'.cell? ⟨w.heap.size, 3, none⟩ = some (.slice (some ⟨bA, oA, none⟩) q.len c) ∧ w'.cell? ⟨bA, oA + i * 4, none⟩ = some (.int .i64 k') ∧ w'.cell? ⟨bA, oA + i * 4 + 1, none⟩ = some (.int .i64 n') ∧ w'.cell? ⟨bA, oA + i * 4 + 2, none⟩ = some (.int .i64 r') ∧ w'.cell? ⟨bA, oA + i * 4 + 3, none⟩ = some (.slice B' q'.len c')) 18 (by kernel_rfl) ?_
          have hS0 := (HKA.out.keep (Below.refl _ wr).drew : KidAt wr.drew w.heap.size kind n r (some ⟨bA, oA, none⟩) q.len c bA oA i k' n' r' B' q'.len c')
          refine wpAnyS_take (i := 0) (v := ?_) (by kernel_rfl) rfl (fun _ _ _ h => h) rfl hS0 (fun w hSw => by (try dsimp only at hSw); go_simp; try with_reducible rfl) ?_
          try simp only [List.getElem_toArray, List.getElem_cons_zero, List.getElem_cons_succ, Act.put, List.setIfInBounds_toArray, List.set_cons_zero, List.set_cons_succ]
          refine wpAnyS_take (i := 1) (v := ?_) (by kernel_rfl) rfl (fun _ _ _ h => h) rfl hS0 (fun w hSw => by (try dsimp only at hSw); go_simp; try with_reducible rfl) ?_
          try simp only [List.getElem_toArray, List.getElem_cons_zero, List.getElem_cons_succ, Act.put, List.setIfInBounds_toArray, List.set_cons_zero, List.set_cons_succ]
          refine wpAnyS_take (i := 2) (v := ?_) (by kernel_rfl) rfl (fun _ _ _ h => h) rfl hS0 (fun w hSw => by (try dsimp only at hSw); go_simp; try with_reducible rfl) ?_
          try simp only [List.getElem_toArray, List.getElem_cons_zero, List.getElem_cons_succ, Act.put, List.setIfInBounds_toArray, List.set_cons_zero, List.set_cons_succ]
          refine wpAnyS_take (i := 3) (v := ?_) (by kernel_rfl) rfl (fun _ _ _ h => h) rfl hS0 (fun w hSw => by (try dsimp only at hSw); go_simp; try with_reducible rfl) ?_
          try simp only [List.getElem_toArray, List.getElem_cons_zero, List.getElem_cons_succ, Act.put, List.setIfInBounds_toArray, List.set_cons_zero, List.set_cons_succ]
          refine wpAnyS_take (i := 4) (v := ?_) (by kernel_rfl) rfl (fun _ _ _ h => h) rfl hS0 (fun w hSw => by (try dsimp only at hSw); go_simp; try with_reducible rfl) ?_
          try simp only [List.getElem_toArray, List.getElem_cons_zero, List.getElem_cons_succ, Act.put, List.setIfInBounds_toArray, List.set_cons_zero, List.set_cons_succ]
          refine wpAnyS_take (i := 5) (v := ?_) (by kernel_rfl) rfl (fun _ _ _ h => h) rfl hS0 (fun w hSw => by (try dsimp only at hSw); go_simp; try with_reducible rfl) ?_
          try simp only [List.getElem_toArray, List.getElem_cons_zero, List.getElem_cons_succ, Act.put, List.setIfInBounds_toArray, List.set_cons_zero, List.set_cons_succ]
          refine wpAnyS_take (i := 6) (v := ?_) (by kernel_rfl) rfl (fun _ _ _ h => h) rfl hS0 (fun w hSw => by (try dsimp only at hSw); go_simp; try with_reducible rfl) ?_
          try simp only [List.getElem_toArray, List.getElem_cons_zero, List.getElem_cons_succ, Act.put, List.setIfInBounds_toArray, List.set_cons_zero, List.set_cons_succ]
          refine wpAnyS_take (i := 7) (v := ?_) (by kernel_rfl) rfl (fun _ _ _ h => h) rfl hS0 (fun w hSw => by (try dsimp only at hSw); go_simp; try with_reducible rfl) ?_
          try simp only [List.getElem_toArray, List.getElem_cons_zero, List.getElem_cons_succ, Act.put, List.setIfInBounds_toArray, List.set_cons_zero, List.set_cons_succ]
          refine wpAnyS_take (i := 8) (v := ?_) (by kernel_rfl) rfl (fun _ _ _ h => h) rfl hS0 (fun w hSw => by (try dsimp only at hSw); go_simp; try with_reducible rfl) ?_
          try simp only [List.getElem_toArray, List.getElem_cons_zero, List.getElem_cons_succ, Act.put, List.setIfInBounds_toArray, List.set_cons_zero, List.set_cons_succ]
          refine wpAnyS_skipG (i := 9) (by kernel_rfl) rfl (fun _ _ _ h => h) rfl hS0 ?_
          try simp only [List.getElem_toArray, List.getElem_cons_zero, List.getElem_cons_succ, Act.put, List.setIfInBounds_toArray, List.set_cons_zero, List.set_cons_succ]
          refine wpAnyS_skipG (i := 10) (by kernel_rfl) rfl (fun _ _ _ h => h) rfl hS0 ?_
          try simp only [List.getElem_toArray, List.getElem_cons_zero, List.getElem_cons_succ, Act.put, List.setIfInBounds_toArray, List.set_cons_zero, List.set_cons_succ]
          refine wpAnyS_skipG (i := 11) (by kernel_rfl) rfl (fun _ _ _ h => h) rfl hS0 ?_
          try simp only [List.getElem_toArray, List.getElem_cons_zero, List.getElem_cons_succ, Act.put, List.setIfInBounds_toArray, List.set_cons_zero, List.set_cons_succ]
          refine wpAnyS_take (i := 12) (v := ?_) (by kernel_rfl) rfl (fun _ _ _ h => h) rfl hS0 (fun w hSw => by (try dsimp only at hSw); go_simp; try with_reducible rfl) ?_
          try simp only [List.getElem_toArray, List.getElem_cons_zero, List.getElem_cons_succ, Act.put, List.setIfInBounds_toArray, List.set_cons_zero, List.set_cons_succ]
          refine wpAnyS_one (i := 13) (by kernel_rfl) rfl rfl (fun K hK => ?_)
          go_simp
          refine (HCK.out wr.drew B' c' _ _ _ (HKB.out.below (Below.refl _ wr).drew) HXB.out.1 HXB.out.2 HNC.out.1 HNC.out.2).mono ?_
          rintro z w3 ⟨⟨aa, rfl, haa⟩, hb3⟩
          have HAA := Lib.hid haa
          clear haa HNC
          have hS1 : KidAt w3 w.heap.size kind n r (some ⟨bA, oA, none⟩) q.len c bA oA i k' n' r' B' q'.len c' := (HKA.out.keep (Below.refl _ wr).drew).keep hb3
          have HB3 := Lib.hid ((Below.refl _ wr).drew.trans (hb3.mono (Nat.le_refl _)))
          clear hb3
          refine hK.out _ _ (fun _ => hS1) ?_
          clear hK K
          try simp only [List.getElem_toArray, List.getElem_cons_zero, List.getElem_cons_succ, Act.put, List.setIfInBounds_toArray, List.set_cons_zero, List.set_cons_succ]
          refine wpAnyS_take (i := 14) (v := ?_) (by kernel_rfl) rfl (fun _ _ _ h => h) rfl hS1 (fun w hSw => by (try dsimp only at hSw); go_simp; try with_reducible rfl) ?_
          try simp only [List.getElem_toArray, List.getElem_cons_zero, List.getElem_cons_succ, Act.put, List.setIfInBounds_toArray, List.set_cons_zero, List.set_cons_succ]
          refine wpAnyS_take (i := 15) (v := ?_) (by kernel_rfl) rfl (fun _ _ _ h => h) rfl hS1 (fun w hSw => by (try dsimp only at hSw); go_simp; try with_reducible rfl) ?_
          try simp only [List.getElem_toArray, List.getElem_cons_zero, List.getElem_cons_succ, Act.put, List.setIfInBounds_toArray, List.set_cons_zero, List.set_cons_succ]
          refine wpAnyS_take (i := 16) (v := ?_) (by kernel_rfl) rfl (fun _ _ _ h => h) rfl hS1 (fun w hSw => by (try dsimp only at hSw); go_simp; try with_reducible rfl) ?_
          try simp only [List.getElem_toArray, List.getElem_cons_zero, List.getElem_cons_succ, Act.put, List.setIfInBounds_toArray, List.set_cons_zero, List.set_cons_succ]
          refine wpAnyS_take (i := 17) (v := ?_) (by kernel_rfl) rfl (fun _ _ _ h => h) rfl hS1 (fun w hSw => by (try dsimp only at hSw); go_simp; try with_reducible rfl) ?_
          try simp only [List.getElem_toArray, List.getElem_cons_zero, List.getElem_cons_succ, Act.put, List.setIfInBounds_toArray, List.set_cons_zero, List.set_cons_succ]
          refine wpAnyS_end 1 18 (by kernel_rfl) (by decide) rfl ?_
          simp only [List.toList_toArray, List.drop_succ_cons, List.drop_zero]
          have HEB' : Hid (eb = (Fo.cons k' n' r' q' .nil).bad [xv] true) := Lib.hid HEB.out.symm
          have HBN : Hid (Below w2.heap.size w2 w3) := Lib.hid (hbw.out.trans (HB3.out.mono hbw.out.size))
          simp only [HEB.out]
          clear hS0 hS1 HKA HKB hbw HB3
          by_cases h0 : eb = 0
          · subst h0
            go_wp2
            exact ⟨⟨i + 1, aa, by omega, by go_num, rfl, HST, Lib.hid (by rw [HAA.out]; exact HNS.out.1 rfl), HBN⟩, by simp [intOf]; omega⟩
          · have h0i : (eb != 0) = true := by simpa using h0
            have HF : Hid (q.bad L true = eb) := Lib.hid (by
              have := badTo_stop (i + 1) q L true (by rw [HST.out]; exact h0)
              rw [this, HST.out])
            have HNF := Lib.hid (HNS.out.2 h0)
            clear h0
            go_wp2
            go_ret2
            exact ⟨⟨aa, by rw [show ((true : Bool) || false) = true from rfl, HF.out]; rfl, by rw [show ((true : Bool) || false) = true from rfl, HNF.out, HAA.out]⟩, HB2.out.2.trans (HBN.out.mono (by have := HB2.out.1; omega))⟩
        · obtain rfl : i = m := by omega
          have HF : Hid (q.bad L true = 0) := Lib.hid (by rw [← badTo_len i q L true (by have := HQL.out; omega)]; exact hbad.out)
          clear hbad
          go_wp2
          go_ret2
          exact ⟨⟨nx, by rw [show ((true : Bool) || false) = true from rfl, HF.out]; rfl, by rw [show ((true : Bool) || false) = true from rfl, ← hnum.out.1, drop_end _ _ (by have := HQL.out; omega)]; rfl⟩, HB2.out.2.trans (hbw.out.mono (by have := HB2.out.1; omega))⟩
    · have hb4' : (kind == 4) = true := e4
      go_enter Tryz.func153, Tryz.ntmps153
      go_wp2_with fail
      have hP0 := PlBox.new w kind n r A q.len c 27
      have hB0 : w.heap.size < (w.alloc (.cells #[.int .i64 kind, .int .i64 n, .int .i64 r, .slice A q.len c] 27)).heap.size ∧ Below w.heap.size w (w.alloc (.cells #[.int .i64 kind, .int .i64 n, .int .i64 r, .slice A q.len c] 27)) := ⟨by simp, (Below.refl _ w).alloc (Nat.le_refl _) _⟩
      generalize hW : w.alloc (.cells #[.int .i64 kind, .int .i64 n, .int .i64 r, .slice A q.len c] 27) = W at *
      refine (HN.out _).mono ?_
      rintro z w1 ⟨rfl, hb1⟩
      have hP1 := hP0.below hb1
      have HB1 : Hid (w.heap.size < w1.heap.size ∧ Below w.heap.size w w1) := Lib.hid ⟨Nat.lt_of_lt_of_le hB0.1 hb1.size, hB0.2.trans (hb1.mono (by omega))⟩
      have HP1 := Lib.hid hP1
      obtain ⟨p0, p1, p2, p3⟩ := hP1
      clear hb1 hP0 hB0 hW
      go_wp2_with fail
      refine (HWC.out _).mono ?_
      rintro z w2 ⟨⟨A', rfl, hA'⟩, hb2⟩
      have HP2 := Lib.hid (HP1.out.below hb2)
      have HB2 : Hid (w.heap.size < w2.heap.size ∧ Below w.heap.size w w2) := Lib.hid ⟨Nat.lt_of_lt_of_le HB1.out.1 hb2.size, HB1.out.2.trans (hb2.mono (by have := HB1.out.1; omega))⟩
      have HA := Lib.hid hA'
      clear hA' hb2 p0 p1 p2 p3 HP1 HB1
      go_wp2
      go_loopw [11, 28] (fun vn vi wr => ∃ (i : Nat) (nx : Int), i ≤ m ∧ vi = .int .i64 i ∧ vn = .int .i64 nx ∧ Hid (q.badTo i L true = 0) ∧ Hid (NumI q L true i nx number) ∧ Hid (Below w2.heap.size w2 wr)) (fun _ vi _ => m - (intOf vi).toNat)
      case atStart => exact ⟨0, _, Nat.zero_le _, rfl, rfl, Lib.hid rfl, Lib.hid (numI_start _ _ _ _ _ HN1.out), Lib.hid (Below.refl _ _)⟩
      case round =>
        obtain ⟨i, nx, hi, rfl, rfl, hbad, hnum, hbw⟩ := hrel
        by_cases hlt : i < m
        · have hlti : (i : Int) < m := by omega
          obtain ⟨bw, ow, rfl, hcw⟩ := HA.out i hlt
          have hcw' : wr.cell? ⟨bw, ow + i, none⟩ = some (.int .i64 (L.getD i 0)) := keep_cell hbw.out hcw
          obtain ⟨k', n', r', q', rest, hd⟩ := drop_lt i q (by have := HQL.out; omega)
          have hstep := badTo_step i q L true hd
          rw [hbad.out, if_neg (by simp)] at hstep
          obtain ⟨bA, oA, B', c', rfl, k0, k1, k2, k3, k5⟩ := HK.out.at' hd
          have hwr : Below w.heap.size w wr := HB2.out.2.trans (hbw.out.mono (by have := HB2.out.1; omega))
          have HKA : Hid (KidAt wr w.heap.size kind n r (some ⟨bA, oA, none⟩) q.len c bA oA i k' n' r' B' q'.len c') := Lib.hid (by
            obtain ⟨a0, a1, a2, a3⟩ := HP2.out.below hbw.out
            exact ⟨a0, a1, a2, a3, keep_cell hwr k0, keep_cell hwr k1, keep_cell hwr k2, keep_cell hwr k3⟩)
          have HKB := Lib.hid (k5.below hwr)
          have HCK := Lib.hid (Fo.all_at HIH.out hd)
          have hns := numI_step hnum.out hd
          have HNC : Hid (0 ≤ nx ∧ nx + 1 + (q'.count : Int) ≤ 1099511627776) := Lib.hid ⟨by have := hnum.out.2.2; have := HNR.out.1; omega, by have := hns.2.2; have := HNR.out.2; omega⟩
          have hns := And.intro hns.1 hns.2.1
          have hx : (L.drop i).headD 0 = L.getD i 0 := by
            rw [List.getD_eq_getElem?_getD, List.headD_eq_head?_getD, List.head?_drop]
          rw [hx] at hstep
          have HXB : Hid (1 ≤ L.getD i 0 ∧ L.getD i 0 ≤ 32768) := Lib.hid (by
            refine HWN.out _ ?_
            rw [List.getD_eq_getElem?_getD, List.getElem?_eq_getElem (by have := HM.out; omega)]
            exact List.getElem_mem _)
          have hql2 : (i : Int) < (q.len : Int) := by omega
          obtain ⟨xv, hxv⟩ : ∃ xv, L.getD i 0 = xv := ⟨_, rfl⟩
          rw [hxv] at hstep HXB hcw' hns
          obtain ⟨eb, heb⟩ : ∃ eb, (Fo.cons k' n' r' q' .nil).bad [xv] true = eb := ⟨_, rfl⟩
          have HEB := Lib.hid heb
          rw [heb] at hns
          have HNS := Lib.hid hns
          rw [heb] at hstep
          have HST := Lib.hid hstep
          have hqlw : IntKind.i64.wrap (q.len : Int) = q.len := by rw [IntKind.wrap_i64]; omega
          clear hcw k0 k1 k2 k3 k5 hwr hd hx hxv heb hstep hbad hnum hns HA
          go_upto_region 9 with (fail)
          clear hcw'
          refine wp_region_S (fun w' => w'.cell? ⟨w.heap.size, 0, none⟩ = some (.int .i64 kind) ∧ w'.cell? ⟨w.heap.size, 1, none⟩ = some (.int .i64 n) ∧ w'.cell? ⟨w.heap.size, 2, none⟩ = some (.int .i64 r) ∧ w'.cell? ⟨w.heap.size, 3, none⟩ = some (.slice (some ⟨bA, oA, none⟩) q.len c) ∧ w'.cell? ⟨bA, oA + i * 4, none⟩ = some (.int .i64 k') ∧ w'.cell? ⟨bA, oA + i * 4 + 1, none⟩ = some (.int .i64 n') ∧ w'.cell? ⟨bA, oA + i * 4 + 2, none⟩ = some (.int .i64 r') ∧ w'.cell? ⟨bA, oA + i * 4 + 3, none⟩ = some (.slice B' q'.len c')) 18 (by kernel_rfl) ?_
          have hS0 := (HKA.out.keep (Below.refl _ wr).drew : KidAt wr.drew w.heap.size kind n r (some ⟨bA, oA, none⟩) q.len c bA oA i k' n' r' B' q'.len c')
          refine wpAnyS_take (i := 0) (v := ?_) (by kernel_rfl) rfl (fun _ _ _ h => h) rfl hS0 (fun w hSw => by (try dsimp only at hSw); go_simp; try with_reducible rfl) ?_
          try simp only [List.getElem_toArray, List.getElem_cons_zero, List.getElem_cons_succ, Act.put, List.setIfInBounds_toArray, List.set_cons_zero, List.set_cons_succ]
          refine wpAnyS_take (i := 1) (v := ?_) (by kernel_rfl) rfl (fun _ _ _ h => h) rfl hS0 (fun w hSw => by (try dsimp only at hSw); go_simp; try with_reducible rfl) ?_
          try simp only [List.getElem_toArray, List.getElem_cons_zero, List.getElem_cons_succ, Act.put, List.setIfInBounds_toArray, List.set_cons_zero, List.set_cons_succ]
          refine wpAnyS_take (i := 2) (v := ?_) (by kernel_rfl) rfl (fun _ _ _ h => h) rfl hS0 (fun w hSw => by (try dsimp only at hSw); go_simp; try with_reducible rfl) ?_
          try simp only [List.getElem_toArray, List.getElem_cons_zero, List.getElem_cons_succ, Act.put, List.setIfInBounds_toArray, List.set_cons_zero, List.set_cons_succ]
          refine wpAnyS_take (i := 3) (v := ?_) (by kernel_rfl) rfl (fun _ _ _ h => h) rfl hS0 (fun w hSw => by (try dsimp only at hSw); go_simp; try with_reducible rfl) ?_
          try simp only [List.getElem_toArray, List.getElem_cons_zero, List.getElem_cons_succ, Act.put, List.setIfInBounds_toArray, List.set_cons_zero, List.set_cons_succ]
          refine wpAnyS_take (i := 4) (v := ?_) (by kernel_rfl) rfl (fun _ _ _ h => h) rfl hS0 (fun w hSw => by (try dsimp only at hSw); go_simp; try with_reducible rfl) ?_
          try simp only [List.getElem_toArray, List.getElem_cons_zero, List.getElem_cons_succ, Act.put, List.setIfInBounds_toArray, List.set_cons_zero, List.set_cons_succ]
          refine wpAnyS_take (i := 5) (v := ?_) (by kernel_rfl) rfl (fun _ _ _ h => h) rfl hS0 (fun w hSw => by (try dsimp only at hSw); go_simp; try with_reducible rfl) ?_
          try simp only [List.getElem_toArray, List.getElem_cons_zero, List.getElem_cons_succ, Act.put, List.setIfInBounds_toArray, List.set_cons_zero, List.set_cons_succ]
          refine wpAnyS_take (i := 6) (v := ?_) (by kernel_rfl) rfl (fun _ _ _ h => h) rfl hS0 (fun w hSw => by (try dsimp only at hSw); go_simp; try with_reducible rfl) ?_
          try simp only [List.getElem_toArray, List.getElem_cons_zero, List.getElem_cons_succ, Act.put, List.setIfInBounds_toArray, List.set_cons_zero, List.set_cons_succ]
          refine wpAnyS_take (i := 7) (v := ?_) (by kernel_rfl) rfl (fun _ _ _ h => h) rfl hS0 (fun w hSw => by (try dsimp only at hSw); go_simp; try with_reducible rfl) ?_
          try simp only [List.getElem_toArray, List.getElem_cons_zero, List.getElem_cons_succ, Act.put, List.setIfInBounds_toArray, List.set_cons_zero, List.set_cons_succ]
          refine wpAnyS_take (i := 8) (v := ?_) (by kernel_rfl) rfl (fun _ _ _ h => h) rfl hS0 (fun w hSw => by (try dsimp only at hSw); go_simp; try with_reducible rfl) ?_
          try simp only [List.getElem_toArray, List.getElem_cons_zero, List.getElem_cons_succ, Act.put, List.setIfInBounds_toArray, List.set_cons_zero, List.set_cons_succ]
          refine wpAnyS_skipG (i := 9) (by kernel_rfl) rfl (fun _ _ _ h => h) rfl hS0 ?_
          try simp only [List.getElem_toArray, List.getElem_cons_zero, List.getElem_cons_succ, Act.put, List.setIfInBounds_toArray, List.set_cons_zero, List.set_cons_succ]
          refine wpAnyS_skipG (i := 10) (by kernel_rfl) rfl (fun _ _ _ h => h) rfl hS0 ?_
          try simp only [List.getElem_toArray, List.getElem_cons_zero, List.getElem_cons_succ, Act.put, List.setIfInBounds_toArray, List.set_cons_zero, List.set_cons_succ]
          refine wpAnyS_skipG (i := 11) (by kernel_rfl) rfl (fun _ _ _ h => h) rfl hS0 ?_
          try simp only [List.getElem_toArray, List.getElem_cons_zero, List.getElem_cons_succ, Act.put, List.setIfInBounds_toArray, List.set_cons_zero, List.set_cons_succ]
          refine wpAnyS_take (i := 12) (v := ?_) (by kernel_rfl) rfl (fun _ _ _ h => h) rfl hS0 (fun w hSw => by (try dsimp only at hSw); go_simp; try with_reducible rfl) ?_
          try simp only [List.getElem_toArray, List.getElem_cons_zero, List.getElem_cons_succ, Act.put, List.setIfInBounds_toArray, List.set_cons_zero, List.set_cons_succ]
          refine wpAnyS_one (i := 13) (by kernel_rfl) rfl rfl (fun K hK => ?_)
          go_simp
          refine (HCK.out wr.drew B' c' _ _ _ (HKB.out.below (Below.refl _ wr).drew) HXB.out.1 HXB.out.2 HNC.out.1 HNC.out.2).mono ?_
          rintro z w3 ⟨⟨aa, rfl, haa⟩, hb3⟩
          have HAA := Lib.hid haa
          clear haa HNC
          have hS1 : KidAt w3 w.heap.size kind n r (some ⟨bA, oA, none⟩) q.len c bA oA i k' n' r' B' q'.len c' := (HKA.out.keep (Below.refl _ wr).drew).keep hb3
          have HB3 := Lib.hid ((Below.refl _ wr).drew.trans (hb3.mono (Nat.le_refl _)))
          clear hb3
          refine hK.out _ _ (fun _ => hS1) ?_
          clear hK K
          try simp only [List.getElem_toArray, List.getElem_cons_zero, List.getElem_cons_succ, Act.put, List.setIfInBounds_toArray, List.set_cons_zero, List.set_cons_succ]
          refine wpAnyS_take (i := 14) (v := ?_) (by kernel_rfl) rfl (fun _ _ _ h => h) rfl hS1 (fun w hSw => by (try dsimp only at hSw); go_simp; try with_reducible rfl) ?_
          try simp only [List.getElem_toArray, List.getElem_cons_zero, List.getElem_cons_succ, Act.put, List.setIfInBounds_toArray, List.set_cons_zero, List.set_cons_succ]
          refine wpAnyS_take (i := 15) (v := ?_) (by kernel_rfl) rfl (fun _ _ _ h => h) rfl hS1 (fun w hSw => by (try dsimp only at hSw); go_simp; try with_reducible rfl) ?_
          try simp only [List.getElem_toArray, List.getElem_cons_zero, List.getElem_cons_succ, Act.put, List.setIfInBounds_toArray, List.set_cons_zero, List.set_cons_succ]
          refine wpAnyS_take (i := 16) (v := ?_) (by kernel_rfl) rfl (fun _ _ _ h => h) rfl hS1 (fun w hSw => by (try dsimp only at hSw); go_simp; try with_reducible rfl) ?_
          try simp only [List.getElem_toArray, List.getElem_cons_zero, List.getElem_cons_succ, Act.put, List.setIfInBounds_toArray, List.set_cons_zero, List.set_cons_succ]
          refine wpAnyS_take (i := 17) (v := ?_) (by kernel_rfl) rfl (fun _ _ _ h => h) rfl hS1 (fun w hSw => by (try dsimp only at hSw); go_simp; try with_reducible rfl) ?_
          try simp only [List.getElem_toArray, List.getElem_cons_zero, List.getElem_cons_succ, Act.put, List.setIfInBounds_toArray, List.set_cons_zero, List.set_cons_succ]
          refine wpAnyS_end 1 18 (by kernel_rfl) (by decide) rfl ?_
          simp only [List.toList_toArray, List.drop_succ_cons, List.drop_zero]
          have HEB' : Hid (eb = (Fo.cons k' n' r' q' .nil).bad [xv] true) := Lib.hid HEB.out.symm
          have HBN : Hid (Below w2.heap.size w2 w3) := Lib.hid (hbw.out.trans (HB3.out.mono hbw.out.size))
          simp only [HEB.out]
          clear hS0 hS1 HKA HKB hbw HB3
          by_cases h0 : eb = 0
          · subst h0
            go_wp2
            exact ⟨⟨i + 1, aa, by omega, by go_num, rfl, HST, Lib.hid (by rw [HAA.out]; exact HNS.out.1 rfl), HBN⟩, by simp [intOf]; omega⟩
          · have h0i : (eb != 0) = true := by simpa using h0
            have HF : Hid (q.bad L true = eb) := Lib.hid (by
              have := badTo_stop (i + 1) q L true (by rw [HST.out]; exact h0)
              rw [this, HST.out])
            have HNF := Lib.hid (HNS.out.2 h0)
            clear h0
            go_wp2
            go_ret2
            exact ⟨⟨aa, by rw [show ((true : Bool) || true) = true from rfl, HF.out]; rfl, by rw [show ((true : Bool) || true) = true from rfl, HNF.out, HAA.out]⟩, HB2.out.2.trans (HBN.out.mono (by have := HB2.out.1; omega))⟩
        · obtain rfl : i = m := by omega
          have HF : Hid (q.bad L true = 0) := Lib.hid (by rw [← badTo_len i q L true (by have := HQL.out; omega)]; exact hbad.out)
          clear hbad
          go_wp2
          go_ret2
          exact ⟨⟨nx, by rw [show ((true : Bool) || true) = true from rfl, HF.out]; rfl, by rw [show ((true : Bool) || true) = true from rfl, ← hnum.out.1, drop_end _ _ (by have := HQL.out; omega)]; rfl⟩, HB2.out.2.trans (hbw.out.mono (by have := HB2.out.1; omega))⟩
  · -- the node itself
    rw [if_pos he, if_pos he]
    have hei : (nodeE kind n r q.len want blue != 0) = true := by simpa using he
    generalize nodeE kind n r q.len want blue = e at *
    clear he
    go_enter Tryz.func153, Tryz.ntmps153
    go_wp2_with fail
    refine (HN.out _).mono ?_
    rintro z w1 ⟨rfl, hb1⟩
    have HB := Lib.hid (((Below.refl _ w).alloc (Nat.le_refl _) (.cells #[.int .i64 kind, .int .i64 n, .int .i64 r, .slice A q.len c] 27)).trans (hb1.mono (by simp)))
    clear hb1
    go_wp2
    go_ret2
    exact ⟨⟨_, rfl, rfl⟩, HB.out⟩
end Go.Proofs.YtmgfaeineklccaaGreat
/- Contract: shape.Check, with the number of the node that may not be. -/
set_option linter.unusedSimpArgs false
set_option linter.unusedVariables false
namespace Go.Proofs.YtmgfaeineklccaaGreat
open Go.RowKit Go.Lib

/-- The number that Check tells. -/
def checkAt (kind n r : Int) (q : Fo) (want : Int) : Int :=
  if want < 1 ∨ 32768 < want then 0 else if 64 < 1 + q.count then 0 else if (Fo.cons kind n r q .nil).bad [want] false = 0 then 0 else (Fo.cons kind n r q .nil).numb [want] false 0

set_option maxRecDepth 100000 in
set_option maxHeartbeats 1000000 in
/-- What shape.Check says. -/
theorem CheckM_any (kind n r : Int) (q : Fo) (want : Int) (hN : q.count ≤ 549755813888) (w : World) (A : Option Addr) (c : Nat) (hk : Kids w A 0 q) :
    Calls Tryz.prog 127 #[plV kind n r A q.len c, .int .i64 want] w fun z w' => z = .returned (.tuple #[.int .i64 (checkAt kind n r q want), .int .i64 (checkE kind n r q want)]) ∧ Below w.heap.size w w' := by
  have FIN : Hid (∀ t, Below w.heap.size w (w.alloc (.cells #[.int .i64 kind, .int .i64 n, .int .i64 r, .slice A q.len c] t))) := Lib.hid (fun t => (Below.refl _ w).alloc (Nat.le_refl _) _)
  unfold checkE checkAt
  by_cases ha : want < 1
  · rw [if_pos (.inl ha)]
    go_enter Tryz.func127, Tryz.ntmps127
    go_wp2
    go_ret2
    exact ⟨rfl, FIN.out _⟩
  by_cases hb : 32768 < want
  · rw [if_pos (.inr hb)]
    go_enter Tryz.func127, Tryz.ntmps127
    go_wp2
    go_ret2
    exact ⟨rfl, FIN.out _⟩
  have hrg : ¬ (want < 1 ∨ 32768 < want) := by omega
  rw [if_neg hrg, if_neg hrg]
  clear hrg
  have HMN := Lib.hid (fun w h => many_any kind n r A q c hN w h)
  have HCK := Lib.hid (checkM_all (.cons kind n r q .nil)).1
  have HK := Lib.hid hk
  have HW : Hid (1 ≤ want ∧ want ≤ 32768) := Lib.hid (by omega)
  clear hk hN
  by_cases hm : 64 < 1 + q.count
  · rw [if_pos hm, if_pos hm]
    have HD : decide (64 < 1 + q.count) = true := decide_eq_true hm
    rw [HD] at HMN
    clear hm HD HCK
    go_enter Tryz.func127, Tryz.ntmps127
    go_wp2_with fail
    refine (HMN.out _ (HK.out.below (FIN.out _))).mono ?_
    rintro z w1 ⟨rfl, hb1⟩
    have HB := Lib.hid ((FIN.out _).trans (hb1.mono (by simp)))
    clear hb1
    go_wp2
    go_ret2
    exact ⟨rfl, HB.out⟩
  · rw [if_neg hm, if_neg hm]
    have HD : decide (64 < 1 + q.count) = false := decide_eq_false hm
    rw [HD] at HMN
    have HM64 : Hid (q.count ≤ 64) := Lib.hid (by omega)
    clear hm HD
    obtain ⟨a, hat⟩ : ∃ a, (Fo.cons kind n r q .nil).numb [want] false 0 = a := ⟨_, rfl⟩
    obtain ⟨e, he⟩ : ∃ e, (Fo.cons kind n r q .nil).bad [want] false = e := ⟨_, rfl⟩
    have HCC : Hid (∀ (w : World), Kids w A 0 q → Calls Tryz.prog 153 #[plV kind n r A q.len c, .int .i64 want, .int .i64 0, .bool false] w fun z w' => z = .returned (.tuple #[.int .i64 a, .int .i64 e]) ∧ Below w.heap.size w w') := Lib.hid (fun w h => by
      rw [← he, ← hat]
      refine (HCK.out w A c want 0 false h HW.out.1 HW.out.2 (Int.le_refl _) (by have := HM64.out; omega)).mono ?_
      rintro z w' ⟨⟨a, rfl, rfl⟩, hb⟩
      exact ⟨rfl, hb⟩)
    rw [he, hat]
    clear HCK he hat
    go_enter Tryz.func127, Tryz.ntmps127
    go_wp2_with fail
    have hP := PlBox.new w kind n r A q.len c 27
    refine (HMN.out _ (HK.out.below (FIN.out _))).mono ?_
    rintro z w1 ⟨rfl, hb1⟩
    obtain ⟨p0, p1, p2, p3⟩ := hP.below hb1
    have HB : Hid (w.heap.size < w1.heap.size ∧ Below w.heap.size w w1) := Lib.hid ⟨Nat.lt_of_lt_of_le (by simp) hb1.size, (FIN.out _).trans (hb1.mono (by simp))⟩
    clear hb1 hP
    go_wp2_with fail
    refine (HCC.out _ (HK.out.below HB.out.2)).mono ?_
    rintro z w2 ⟨rfl, hb2⟩
    have HB2 := Lib.hid (HB.out.2.trans (hb2.mono (by have := HB.out.1; omega)))
    clear hb2 p0 p1 p2 p3
    by_cases he : e = 0
    · subst he
      go_wp2
      go_ret2
      exact ⟨rfl, HB2.out⟩
    · have hei : (e != 0) = true := by simpa using he
      have HE0 := Lib.hid he
      clear he
      go_wp2
      go_ret2
      exact ⟨rfl, HB2.out⟩
end Go.Proofs.YtmgfaeineklccaaGreat
