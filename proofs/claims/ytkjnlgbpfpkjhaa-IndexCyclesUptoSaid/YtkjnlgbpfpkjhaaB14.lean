/- The walk of Cycles at a permutation. -/
import Derived.Test.YtkjnlgbpfpkjhaaB13
set_option linter.unusedSimpArgs false
set_option linter.unusedVariables false
namespace Go.Proofs.Ytkjnlgbpfpkjhaa
open Go.RowKit

theorem slice_neq_nil (w : World) (a : Option Addr) (n c n' c' : Nat) : (binOp .neq 22 (.slice a n c) (.slice none n' c')).run Try.prog w = .ok (.bool !a.isNone) w := run_neq_slice_nil_any w _ _ a n c n' c' Try.underlying22

theorem grown_alloc {x y : World} {row : Option Nat} (h : x.grownBy y row) (o : Obj) : x.grownBy (y.alloc o) row :=
  ⟨h.os, h.tape, h.output, by have := h.size; simp; omega, fun i hi e => (Below.heap_alloc _ _ _ (Nat.lt_of_lt_of_le hi h.size)).trans (h.block i hi e)⟩

theorem OwnS.alloc {e : TypeId} {w : World} {base m : Nat} {v : Value} {vs : List Value} (h : OwnS e w base v m vs) (o : Obj) : OwnS e (w.alloc o) base v m vs := World.ownsRow.alloc h o

theorem OwnS.form {e : TypeId} {w : World} {base m : Nat} {v : Value} {vs : List Value} (h : OwnS e w base v m vs) : ∃ A c, v = .slice A m c := by
  have h0 : w.ownsRow base e 1 v m vs := h
  rcases h0.2 with ⟨rfl, rfl⟩ | ⟨b, cap, cur, rfl, _⟩
  · exact ⟨_, _, rfl⟩
  · exact ⟨_, _, rfl⟩
theorem OwnS.more {e : TypeId} {w : World} {base B m : Nat} {v : Value} {vs : List Value} (h : OwnS e w B v m vs) (hb : base ≤ B) : OwnS e w base v m vs := by
  have h0 : w.ownsRow B e 1 v m vs := h
  refine ⟨h0.1, ?_⟩
  rcases h0.2 with h | ⟨b, cap, cur, e, h1, h2⟩
  · exact .inl h
  · exact .inr ⟨b, cap, cur, e, by omega, h2⟩

set_option maxRecDepth 100000 in
set_option maxHeartbeats 4000000 in
theorem Cycles_good (A : Option Addr) (n c : Nat) (p : Nat → Int) (w : World) (hA : IntsAt w A n p) (hn : n ≤ 1000000000) (hp : Perm p n) :
    Calls Try.prog 15 #[.slice A n c] w fun z w' => ∃ A' c' v us, v = .slice A' (starts p n).length c' ∧ z = .returned (.tuple #[v, .int .i64 0]) ∧ OwnS 22 w' w.heap.size v (starts p n).length us ∧ Done w' w.heap.size us (starts p n) p ∧ Below w.heap.size w w' := by
  obtain ⟨i0, q0, q1, q2, q3⟩ := info_parts info22
  have HA := Lib.hid hA
  have HP := Lib.hid hp
  have hmk := mk62 n (by omega)
  clear hA hp
  go_enter Try.func15, Try.ntmps15
  go_wp2
  go_loopw [6, 16] (fun r i wr => ∃ k : Nat, k ≤ n ∧ i = .int .i64 k ∧ Hid (RowB wr w.heap.size n (seen p k)) ∧ Hid (w.heap.size < wr.heap.size) ∧ Hid (Below w.heap.size w wr)) (fun _ i _ => n - (intOf i).toNat)
  case atStart => exact ⟨0, by omega, rfl, Lib.hid (zb_row n w), Lib.hid (by simp), Lib.hid ((Below.refl _ w).alloc (Nat.le_refl _) _)⟩
  case round =>
    obtain ⟨k, hk, rfl, hr, hs, hb⟩ := hrel
    by_cases hlt : k < n
    · obtain ⟨b, o, rfl, hc⟩ := HA.out.keep hb.out k hlt
      have hp1 := HP.out.lo k hlt
      have hp2 := HP.out.hi k hlt
      have HR2 : Hid (∀ v : Nat, p k = v → v < n → RowB (wr.setCell ⟨w.heap.size, v, none⟩ (.bool true)) w.heap.size n (seen p (k + 1))) := Lib.hid (fun v hv hl => (hr.out.set hl true).congr fun i hi => by
        unfold updB
        have e : seen p (k + 1) i = if i = (p k).toNat then true else seen p k i := rfl
        rw [e, hv, Int.toNat_natCast])
      have HF : Hid (∀ v : Nat, p k = v → seen p k v = false) := Lib.hid (fun v hv => by
        rcases hs2 : seen p k v with _ | _
        · rfl
        · obtain ⟨i, hi, e⟩ := seen_true hs2
          have := HP.out.inj i k (by omega) hlt (by have := HP.out.lo i (by omega); omega)
          omega)
      obtain ⟨u, hu⟩ : ∃ u, p k = u := ⟨_, rfl⟩
      rw [hu] at hc HR2 hp1 hp2 HF
      clear hu
      obtain ⟨v, rfl⟩ := Int.eq_ofNat_of_zero_le hp1
      have hv : v < n := by omega
      obtain ⟨r1, r2⟩ := hr.out v hv
      rw [HF.out v rfl] at r1
      have HR3 := Lib.hid (HR2.out v rfl hv)
      have HB3 := Lib.hid (hb.out.setCell (p := ⟨w.heap.size, v, none⟩) (Nat.le_refl _) (.bool true))
      have HZ := Lib.hid (show w.heap.size < (wr.setCell ⟨w.heap.size, v, none⟩ (.bool true)).heap.size by simpa using hs.out)
      clear HR2 HF
      go_wp2
      go_roundw
      case rel => exact ⟨k + 1, by omega, by go_num, HR3, HZ, HB3⟩
      case measure => simp [intOf]; omega
    · obtain rfl : k = n := by omega
      have HR0 : Hid (RowB wr w.heap.size k (keeps p 0)) := Lib.hid (hr.out.congr fun i hi => by rw [seen_all HP.out hi, keeps_zero])
      have HS0 := hs
      have HB0 := hb
      clear hr hs hb hlt hk
      obtain ⟨W1, hW1⟩ : ∃ W1, W1 = wr := ⟨_, rfl⟩
      rw [← hW1] at HR0 HS0 HB0 ⊢
      clear hW1
      go_wp2
      go_loopw [7, 8, 9, 10, 40] (fun out q cy at_ i wr => ∃ (x : Nat) (us : List Value), x ≤ k ∧ i = .int .i64 x ∧ Hid (RowB wr w.heap.size k (keeps p x)) ∧ Hid (OwnS 22 wr (w.heap.size + 1) out (starts p x).length us) ∧ Hid (Done wr (w.heap.size + 1) us (starts p x) p) ∧ Hid (w.heap.size < wr.heap.size) ∧ Hid (Below w.heap.size w wr)) (fun _ _ _ _ i _ => k - (intOf i).toNat)
      case atStart => exact ⟨0, [], by omega, rfl, HR0, Lib.hid (World.ownsRow_nil _ _ _ _), Lib.hid ⟨rfl, fun i x h => by simp [starts] at h⟩, HS0, HB0⟩
      case round =>
        obtain ⟨x, us, hx, rfl, hr, hout, hdone, hs, hb⟩ := hrel
        by_cases hlt : x < k
        · obtain ⟨W2, hW2⟩ : ∃ W2, W2 = wr := ⟨_, rfl⟩
          rw [← hW2] at hr hout hdone hs hb ⊢
          clear hW2
          have hxk : (x : Int) < k := by omega
          have hlen := clen_le HP.out hlt
          have hs2 := hs.out
          have hz2 := hb.out.size
          go_wp2_with fail
          go_loopw [9, 10] (fun cy at_ wi => ∃ (j : Nat), j ≤ clen p x ∧ at_ = .int .i64 (it p x j) ∧ Hid (RowB wi w.heap.size k (clr p x j)) ∧ Hid (Own wi W2.heap.size cy j (fun i => (it p x i : Int))) ∧ Hid (W2.grownBy wi (some w.heap.size)) ∧ Hid (j = 0 → cy = .slice none 0 0)) (fun cy _ _ => clen p x - lenOf cy)
          case atStart => exact ⟨0, by omega, rfl, Lib.hid (hr.out.congr fun i hi => by rw [clr_zero]), Lib.hid (Own.nil _ _ _), Lib.hid (OnlyB.refl _ _).grown, Lib.hid (fun _ => rfl)⟩
          case round =>
            obtain ⟨j, hj, rfl, hri, hcy, hgi, hnil⟩ := hrel
            obtain ⟨Ac, cc, hcv⟩ := hcy.out.form
            subst hcv
            have hy := it_lt HP.out hlt j
            obtain ⟨r1, r2⟩ := hri.out _ hy
            have HBI : Hid (Below w.heap.size w _) := Lib.hid (hb.out.trans (grown_below hgi.out (Nat.le_refl _) hz2))
            by_cases hjl : j < clen p x
            · rw [clr_yes HP.out hlt hjl] at r1
              have HR2 := Lib.hid ((hri.out.set hy false).congr fun i hi => clr_step p x j i)
              have HPY : Hid (p (it p x j) = (it p x (j + 1) : Nat)) := Lib.hid (by
                have := HP.out.lo _ hy
                show p (it p x j) = ((p (it p x j)).toNat : Int)
                omega)
              obtain ⟨y, hyy⟩ : ∃ y, it p x j = y := ⟨_, rfl⟩
              have HYY := Lib.hid hyy
              rw [hyy] at r1 r2 hy HR2 HPY ⊢
              clear hyy
              have HG1 := Lib.hid (grown_set hgi.out y (.bool false))
              have HO1 : Hid (Own _ W2.heap.size _ j _) := Lib.hid (hcy.out.grown (OnlyB.grown ((OnlyB.refl w.heap.size _).setCell y none (.bool false))) (.inr (fun e => by have := hcy.out.base _ e; omega)))
              have hy1 : (y : Int) < k := by omega
              have hz3 := HG1.out.size
              go_wp2_with (at_builtin; refine wpList_app rfl _ _ rfl W2.heap.size _ j (fun i => (it p x i : Int)) rfl (HO1.out.alloc _) _ _ (y : Int) rfl (by simp [go_sem]) (by rw [HYY.out]) (by omega) (by simp at hz3 ⊢; omega) ?_; intro v' w' h1' h2'; have HG2 : Hid (W2.grownBy w' (some w.heap.size)) := Lib.hid (grown_trans (grown_alloc HG1.out _) h2'.out (fun g e => HO1.out.base g e)); have HRW : Hid (RowB w' w.heap.size k (clr p x (j + 1))) := Lib.hid ((HR2.out.alloc _).grown h2'.out (fun e => by have := HO1.out.base _ e.symm; omega)); have HBW : Hid (Below w.heap.size w w') := Lib.hid (hb.out.trans (grown_below HG2.out (Nat.le_refl _) hz2)); obtain ⟨bb, oo, ee, hc'⟩ := HA.out.keep HBW.out y hy; subst ee; rw [HPY.out] at hc'; clear r1 r2)
              refine ⟨⟨j + 1, by omega, rfl, HRW, h1', HG2, Lib.hid (fun h => by omega)⟩, ?_⟩
              obtain ⟨A2, c2, e2⟩ := h1'.out.form
              rw [e2]
              simp only [lenOf]
              omega
            · obtain rfl : j = clen p x := by omega
              rw [clr_no HP.out hlt] at r1
              have HRK : Hid (RowB _ w.heap.size k (keeps p (x + 1))) := Lib.hid (hri.out.congr fun i hi => clr_end HP.out hlt hi)
              have HOUT := Lib.hid (hout.out.kept hgi.out (.inr (fun e => by have := hout.out.base _ e; omega)))
              have HDONE := Lib.hid (hdone.out.map fun u n g h => h.grown hgi.out (.inr (fun e => by have := h.base _ e; omega)))
              have hzi := hgi.out.size
              have hsl := starts_le p x
              obtain ⟨y, hyy⟩ : ∃ y, it p x (clen p x) = y := ⟨_, rfl⟩
              rw [hyy] at r1 r2 hy ⊢
              clear hyy hri hout hdone hr hj hjl
              have hy1 : (y : Int) < k := by omega
              by_cases hl : lst p x = true
              · have el : clen p x = per p x := by unfold clen; rw [if_pos hl]
                have HST : Hid (starts p (x + 1) = starts p x ++ [x]) := Lib.hid (by rw [starts_succ, if_pos hl])
                have hpos := (per_cyc HP.out hlt).pos
                rw [el] at hcy hnil ⊢
                obtain ⟨g, o', e3, _⟩ := hcy.out.intsOf 0 (by omega)
                subst e3
                clear el hl hlen
                go_wp2_with (at_builtin; refine wpList_appS 32 22 i0 _ Try.underlying32 q0 q1 q2 q3 rfl rfl _ _ rfl (w.heap.size + 1) _ _ us rfl (HOUT.out.alloc _) _ _ (some ⟨g, o', none⟩) (per p x) cc rfl (by simp [go_sem]) (by omega) (by simp; omega) ?_; intro v' w' h1' h2')
                have HRW2 : Hid (RowB w' w.heap.size k (keeps p (x + 1))) := Lib.hid ((HRK.out.alloc _).grown h2'.out (fun e => by have := HOUT.out.base _ e.symm; omega))
                have HD2 : Hid (Done w' (w.heap.size + 1) _ (starts p (x + 1)) p) := Lib.hid (by
                  rw [HST.out]
                  exact Done.snoc (HDONE.out.map fun u n g h => (h.alloc _).grown h2'.out (HOUT.out.apart h (by decide)))
                    (((hcy.out.alloc _).more (by omega)).grown h2'.out (HOUT.out.apart hcy.out (by decide))))
                have HO2 : Hid (OwnS 22 w' (w.heap.size + 1) v' (starts p (x + 1)).length _) := Lib.hid (by
                  rw [HST.out, List.length_append]
                  exact h1'.out)
                have HZ2 : Hid (w.heap.size < w'.heap.size) := Lib.hid (by have := h2'.out.size; simp at this; omega)
                have HB2 : Hid (Below w.heap.size w w') := Lib.hid ((HBI.out.alloc HBI.out.size _).grown h2'.out (by simp; omega) (fun k e => by have := HOUT.out.base k e; omega))
                refine ⟨⟨x + 1, _, by omega, by go_num, HRW2, HO2, HD2, HZ2, HB2⟩, by simp [intOf]; omega⟩
              · have hl' : lst p x = false := by simpa using hl
                have el : clen p x = 0 := by unfold clen; rw [if_neg hl]
                have HST : Hid (starts p (x + 1) = starts p x) := Lib.hid (by rw [starts_succ, if_neg hl, List.append_nil])
                have en := hnil.out el
                rw [en]
                have HZ2 : Hid (w.heap.size < _) := Lib.hid (Nat.lt_of_lt_of_le hs2 hzi)
                rw [← HST.out] at HOUT HDONE
                clear el hl hl' hlen en hnil hcy
                go_wp2
                refine ⟨⟨x + 1, _, by omega, by go_num, HRK, HOUT, HDONE, HZ2, HBI⟩, by simp [intOf]; omega⟩
        · obtain rfl : x = k := by omega
          have ho : OwnS 22 wr (w.heap.size + 1) u7 (starts p x).length us := hout.out
          obtain ⟨A', c', e⟩ := ho.form
          have HOO := Lib.hid (ho.more (base := w.heap.size) (by omega))
          have HDD := Lib.hid (hdone.out.map fun u n g h => h.more (base := w.heap.size) (by omega))
          have HE := Lib.hid e
          clear ho e
          go_wp2
          go_ret2
          exact ⟨A', c', _, us, HE.out, rfl, HOO.out, HDD.out, hb.out⟩
end Go.Proofs.Ytkjnlgbpfpkjhaa
