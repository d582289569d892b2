/- The document's Cycles at a permutation. -/
import Derived.Test.YtkjnlgbpfpkjhaaB21
import Derived.Test.YtkjnlgbpfpkjhaaB11
set_option linter.unusedSimpArgs false
set_option linter.unusedVariables false
namespace Go.Proofs.Ytkjnlgbpfpkjhaa
open Go.RowKit

theorem below_le {c B : Nat} {w w' : World} (h : Below B w w') (hc : c ≤ B) : Below c w w' := ⟨h.os, h.tape, h.output, h.size, fun i hi => h.block i (by omega)⟩
theorem Done.below {w w' : World} {base : Nat} {us : List Value} {cs : List Nat} {p : Nat → Int} (h : Done w base us cs p) (hb : Below w.heap.size w w') : Done w' base us cs p :=
  h.map fun _ _ _ k => Own.below k hb

set_option maxRecDepth 100000 in
set_option maxHeartbeats 4000000 in
theorem rCycles_good (A : Option Addr) (n c : Nat) (p : Nat → Int) (w : World) (hA : IntsAt w A n p) (hn : n ≤ 1000000000) (hp : Perm p n) :
    Calls Try.prog 16 #[.slice A n c] w fun z w' => ∃ A' c' v us, v = .slice A' (starts p n).length c' ∧ z = .returned (.tuple #[v, .int .i64 0]) ∧ OwnS 39 w' w.heap.size v (starts p n).length us ∧ Done w' w.heap.size us (starts p n) p ∧ Below w.heap.size w w' := by
  obtain ⟨z39, hz39, zc⟩ := info39
  obtain ⟨i0, q0, q1, q2, q3⟩ := info_parts hz39
  have HA := Lib.hid hA
  have HP := Lib.hid hp
  have hmk := mk62 n (by omega)
  clear hA hp hz39
  go_enter Try.func16, Try.ntmps16
  go_wp2
  go_loopw [5] (fun i wr => ∃ k : Nat, k ≤ n ∧ i = .int .i64 k ∧ Hid (RowB wr w.heap.size n (seen p k)) ∧ Hid (Below w.heap.size w wr)) (fun i _ => n - (intOf i).toNat)
  case atStart => exact ⟨0, by omega, rfl, Lib.hid (zb_row n w), Lib.hid ((Below.refl _ w).alloc (Nat.le_refl _) _)⟩
  case round =>
    obtain ⟨k, hk, rfl, hr, hb⟩ := hrel
    by_cases hlt : k < n
    · obtain ⟨b, o, rfl, hc⟩ := HA.out.keep hb.out k hlt
      have hki : (k : Int) < n := by omega
      have hp1 := HP.out.lo k hlt
      have hp2 := HP.out.hi k hlt
      have HR2 : Hid (∀ v : Nat, p k = v → v < n → RowB (wr.setCell ⟨w.heap.size, v, none⟩ (.bool true)) w.heap.size n (seen p (k + 1))) := Lib.hid (fun v hv hl => (hr.out.set hl true).congr fun i hi => by
        unfold updB
        have e : seen p (k + 1) i = if i = (p k).toNat then true else seen p k i := rfl
        rw [e, hv, Int.toNat_natCast])
      have HF : Hid (∀ v : Nat, p k = v → seen p k v = false) := Lib.hid (fun v hv => by
        rcases hs2 : seen p k v with _ | _
        · rfl
        · obtain ⟨i, hi, e⟩ := seen_true hs2
          have := HP.out.inj i k (by omega) hlt (by have := HP.out.lo i (by omega); omega)
          omega)
      obtain ⟨u, hu⟩ : ∃ u, p k = u := ⟨_, rfl⟩
      rw [hu] at hc HR2 hp1 hp2 HF
      clear hu
      obtain ⟨v, rfl⟩ := Int.eq_ofNat_of_zero_le hp1
      have hv : v < n := by omega
      obtain ⟨r1, r2⟩ := hr.out v hv
      rw [HF.out v rfl] at r1
      have HR3 := Lib.hid (HR2.out v rfl hv)
      have HB3 := Lib.hid (hb.out.setCell (p := ⟨w.heap.size, v, none⟩) (Nat.le_refl _) (.bool true))
      clear HR2 HF
      go_wp2
      go_roundw
      case rel => exact ⟨k + 1, by omega, by go_num, HR3, HB3⟩
      case measure => simp [intOf]; omega
    · obtain rfl : k = n := by omega
      have HB0 := hb
      clear hr hb hlt hk
      obtain ⟨W1, hW1⟩ : ∃ W1, W1 = wr := ⟨_, rfl⟩
      rw [← hW1] at HB0 ⊢
      clear hW1
      go_wp2
      go_loopw [6, 7, 8, 9, 10] (fun out i bx ls at_ wr => ∃ (x : Nat) (us : List Value), x ≤ k ∧ i = .int .i64 x ∧ Hid (OwnS 39 wr w.heap.size out (starts p x).length us) ∧ Hid (Done wr w.heap.size us (starts p x) p) ∧ Hid (Below w.heap.size w wr)) (fun _ i _ _ _ _ => k - (intOf i).toNat)
      case atStart => exact ⟨0, [], by omega, rfl, Lib.hid (World.ownsRow_nil _ _ _ _), Lib.hid ⟨rfl, fun i x h => by simp [starts] at h⟩, HB0⟩
      case round =>
        obtain ⟨x, us, hx, rfl, hout, hdone, hb⟩ := hrel
        by_cases hlt : x < k
        · have hxk : (x : Int) < k := by omega
          obtain ⟨W2, hW2⟩ : ∃ W2, W2 = wr := ⟨_, rfl⟩
          rw [← hW2] at hout hdone hb ⊢
          clear hW2
          have CY := Lib.hid (per_cyc HP.out hlt)
          have hper := per_le HP.out hlt
          have hpos := CY.out.pos
          have hz2 := hb.out.size
          have hsl := starts_le p x
          obtain ⟨b, o, rfl, hc⟩ := HA.out.keep hb.out x hlt
          have HPX : Hid (p x = (it p x 1 : Nat)) := Lib.hid (by
            have := HP.out.lo x hlt
            show p x = ((p x).toNat : Int)
            omega)
          have HO0 := Lib.hid ((Own.one W2 W2.heap.size x (Nat.le_refl _) (fun i => (it p x i : Int)) rfl).alloc (.cells #[.slice (some ⟨W2.heap.size, 0, none⟩) 1 1] 39))
          have HX0 : Hid (Box1 ((W2.alloc (.cells #[.int .i64 x] 3)).alloc (.cells #[.slice (some ⟨W2.heap.size, 0, none⟩) 1 1] 39)) (W2.heap.size + 1) (.slice (some ⟨W2.heap.size, 0, none⟩) 1 1)) := Lib.hid (by
            have := Box1.new (W2.alloc (.cells #[.int .i64 x] 3)) (.slice (some ⟨W2.heap.size, 0, none⟩) 1 1)
            simpa using this)
          have HG0 : Hid (Below W2.heap.size W2 ((W2.alloc (.cells #[.int .i64 x] 3)).alloc (.cells #[.slice (some ⟨W2.heap.size, 0, none⟩) 1 1] 39))) := Lib.hid (((Below.refl _ W2).alloc (Nat.le_refl _) _).alloc (by simp) _)
          have hcA := keep_cell HG0.out hc
          rw [HPX.out] at hc hcA
          go_wp2_with fail
          go_loopw [9, 10] (fun ls at_ wi => ∃ (j : Nat) (A : Option Addr) (c' : Nat), j + 1 ≤ per p x ∧ ls = .bool true ∧ at_ = .int .i64 (it p x (j + 1)) ∧ Hid (Box1 wi (W2.heap.size + 1) (.slice A (j + 1) c')) ∧ Hid (Own wi W2.heap.size (.slice A (j + 1) c') (j + 1) (fun i => (it p x i : Int))) ∧ Hid (Below W2.heap.size W2 wi) ∧ Hid (∀ i, i ≤ j → x ≤ it p x i)) (fun _ _ wi => per p x - (match wi.cell? ⟨W2.heap.size + 1, 0, none⟩ with | some v => lenOf v | none => 0))
          case atStart =>
            have HI0 : Hid (∀ i, i ≤ 0 → x ≤ it p x i) := Lib.hid (fun i hi => by
              obtain rfl : i = 0 := by omega
              exact Nat.le_refl _)
            exact ⟨0, _, _, hpos, rfl, rfl, HX0, HO0, HG0, HI0⟩
          case round =>
            obtain ⟨j, A, c', hj, rfl, rfl, hbx, hcy, hgi, hle⟩ := hrel
            have hyk := it_lt HP.out hlt (j + 1)
            have HBI : Hid (Below w.heap.size w _) := Lib.hid (hb.out.trans ⟨hgi.out.os, hgi.out.tape, hgi.out.output, hgi.out.size, fun i hi => hgi.out.block i (by omega)⟩)
            have hbc := hbx.out.cell
            have hbf := hbx.out.frozen
            have hzi := hgi.out.size
            by_cases hjl : j + 1 < per p x
            · have hne : ¬ (it p x (j + 1) : Int) = x := fun e => CY.out.first (j + 1) (by omega) hjl (by omega)
              have HPY : Hid (p (it p x (j + 1)) = (it p x (j + 2) : Nat)) := Lib.hid (by
                have := HP.out.lo _ hyk
                show p (it p x (j + 1)) = ((p (it p x (j + 1))).toNat : Int)
                omega)
              have HOUT := Lib.hid (hout.out.below hgi.out)
              have HLE : Hid (x ≤ it p x (j + 1) → ∀ i, i ≤ j + 1 → x ≤ it p x i) := Lib.hid (fun h i hi => by
                rcases Nat.lt_or_ge j i with h1 | h1
                · obtain rfl : i = j + 1 := by omega
                  exact h
                · exact hle.out i h1)
              have HNO : Hid (it p x (j + 1) < x → lst p x = false) := Lib.hid lst_not
              obtain ⟨y, hyy⟩ : ∃ y, it p x (j + 1) = y := ⟨_, rfl⟩
              have HYY := Lib.hid hyy
              rw [hyy] at hne hyk HPY HLE HNO ⊢
              clear hyy
              have hne2 : ((y : Int) != x) = true := by rw [bne_iff_ne]; exact hne
              by_cases hyx : y < x
              · have HST : Hid (starts p (x + 1) = starts p x) := Lib.hid (by rw [starts_succ, HNO.out hyx]; simp)
                have hyx2 : (y : Int) < x := by omega
                have HDONE := Lib.hid (hdone.out.map fun u n g h => h.below hgi.out)
                go_wp2_with (at_builtin; refine wpList_app rfl _ _ rfl W2.heap.size _ (j + 1) (fun i => (it p x i : Int)) rfl (hcy.out.alloc _) _ _ (y : Int) rfl (by simp [go_sem]) (by rw [HYY.out]) (by omega) (by simp; omega) ?_; intro v' w' h1' h2'; obtain ⟨A2, c2, e2⟩ := h1'.out.form; subst e2; have HBX2 := Lib.hid (hbx.out.app hcy.out h2'.out); have HB2 := Lib.hid (Below.app hgi.out hcy.out h2'.out (Nat.le_refl _) (Nat.le_refl _)); have hbc2 := HBX2.out.cell; have hbf2 := HBX2.out.frozen; clear hbc hbf)
                have HB3 := Lib.hid (HB2.out.setCell (p := ⟨W2.heap.size + 1, 0, none⟩) (by simp) (.slice A2 (j + 1 + 1) c2))
                have HO4 := Lib.hid (hout.out.below HB3.out)
                have HD4 := Lib.hid (hdone.out.below HB3.out)
                have HB4 := Lib.hid (hb.out.trans (below_le HB3.out hz2))
                rw [← HST.out] at HO4 HD4
                exact ⟨⟨x + 1, us, by omega, by go_num, HO4, HD4, HB4⟩, by simp [intOf]; omega⟩
              · have hyx2 : ¬ (y : Int) < x := by omega
                have HLE2 := Lib.hid (HLE.out (by omega))
                go_wp2_with (at_builtin; refine wpList_app rfl _ _ rfl W2.heap.size _ (j + 1) (fun i => (it p x i : Int)) rfl (hcy.out.alloc _) _ _ (y : Int) rfl (by simp [go_sem]) (by rw [HYY.out]) (by omega) (by simp; omega) ?_; intro v' w' h1' h2'; obtain ⟨A2, c2, e2⟩ := h1'.out.form; subst e2; have HBX2 := Lib.hid (hbx.out.app hcy.out h2'.out); have HB2 := Lib.hid (Below.app hgi.out hcy.out h2'.out (Nat.le_refl _) (Nat.le_refl _)); have hbc2 := HBX2.out.cell; have hbf2 := HBX2.out.frozen; clear hbc hbf; have HB3 := Lib.hid (HB2.out.setCell (p := ⟨W2.heap.size + 1, 0, none⟩) (by simp) (.slice A2 (j + 1 + 1) c2)); have HB4 := Lib.hid (hb.out.trans (below_le HB3.out hz2)); obtain ⟨bb, oo, ee, hc'⟩ := HA.out.keep HB4.out y hyk; cases ee; rw [HPY.out] at hc')
                have HO3 := Lib.hid (h1'.out.grown (OnlyB.grown ((OnlyB.refl (W2.heap.size + 1) w').setCell 0 none (.slice A2 (j + 1 + 1) c2))) (h1'.out.box HBX2.out))
                have HX3 := Lib.hid (HBX2.out.set (.slice A2 (j + 1 + 1) c2))
                refine ⟨⟨j + 1, A2, c2, by omega, rfl, rfl, HX3, HO3, HB3, HLE2⟩, ?_⟩
                rw [HX3.out.cell, hbx.out.cell]
                simp only [lenOf]
                omega
            · have hp1 : per p x = j + 1 := by omega
              have HBK : Hid (it p x (j + 1) = x) := Lib.hid (by rw [← hp1]; exact CY.out.back)
              have HLST : Hid (lst p x = true) := Lib.hid (lst_of_all CY.out fun i hi => hle.out i (by omega))
              rw [HBK.out]
              have HO4 := Lib.hid (hout.out.below hgi.out)
              have HD4 := Lib.hid (hdone.out.below hgi.out)
              have HST : Hid (starts p (x + 1) = starts p x ++ [x]) := Lib.hid (by rw [starts_succ, HLST.out, if_pos rfl])
              have hle4 := HO4.out.base
              go_wp2_with (at_builtin; refine wpList_appS 35 39 i0 z39 Try.underlying35 q0 q1 q2 q3 zc rfl _ _ rfl w.heap.size _ _ us rfl (HO4.out.alloc _) _ _ A (j + 1) c' rfl (by simp [go_sem]) (by omega) (by simp; omega) ?_; intro v' w' h1' h2')
              have HD2 : Hid (Done w' w.heap.size (us ++ [.slice A (j + 1) c']) (starts p (x + 1)) p) := Lib.hid (by
                rw [HST.out]
                refine Done.snoc (HD4.out.map fun u n g h => (h.alloc _).grown h2'.out (HO4.out.apart h (by decide))) ?_
                rw [hp1]
                exact ((hcy.out.alloc _).more hz2).grown h2'.out (HO4.out.apart hcy.out (by decide)))
              have HO2 : Hid (OwnS 39 w' w.heap.size v' (starts p (x + 1)).length _) := Lib.hid (by
                rw [HST.out, List.length_append]
                exact h1'.out)
              have HB2 : Hid (Below w.heap.size w w') := Lib.hid ((HBI.out.alloc HBI.out.size _).grown h2'.out (by simp; omega) (fun k e => hle4 k e))
              exact ⟨⟨x + 1, _, by omega, by go_num, HO2, HD2, HB2⟩, by simp [intOf]; omega⟩
        · obtain rfl : x = k := by omega
          have ho : OwnS 39 wr w.heap.size u6 (starts p x).length us := hout.out
          obtain ⟨A', c', e⟩ := ho.form
          have HE := Lib.hid e
          clear ho e
          go_wp2
          go_ret2
          exact ⟨A', c', _, us, HE.out, rfl, hout.out, hdone.out, hb.out⟩
end Go.Proofs.Ytkjnlgbpfpkjhaa
