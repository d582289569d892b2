/- multi.may, where all is well. -/
import Derived.Test.YtbobmhobaaeohaaMU1
import Derived.Test.YtbobmhobaaeohaaU4
import Derived.Test.YtbobmhobaaeohaaQ13
set_option linter.unusedSimpArgs false
set_option linter.unusedVariables false
namespace Go.Proofs.Ytbobmhobaaeohaa
open Go.RowKit Go.Lib

def W880 : Nat := 8570350090886053888
set_option maxRecDepth 100000 in
theorem may1_any (x : Nat) (w : World) (hx : x < 18446744073709551616) :
    Calls Try.prog 17 #[.float .f64 x] w fun z w' => z = .returned (.bool (!fitsB W880 x)) ∧ w = w' := by
  have HX := Lib.hid hx
  clear hx
  go_enter Try.func17, Try.ntmps17
  go_wp2_with fail
  refine (absF_any x _ HX.out).mono ?_
  rintro z w' ⟨rfl, rfl⟩
  go_wp2
  go_ret
  refine ⟨?_, rfl⟩
  unfold fitsB
  rw [Bool.not_or]
  rfl
set_option maxRecDepth 100000 in
set_option maxHeartbeats 1000000 in
theorem may2_any (u : Rx) (b : Nat) (w : World) (h : FnBox w b 17) :
    Calls Try.prog 20 #[cV u, .pointer (some ⟨b, 0, none⟩)] w fun z w' => z = .returned (.bool (badC W880 (nC u))) ∧ Below w.heap.size w w' := by
  have h := h
  unfold FnBox at h
  unfold badC
  rw [fitsC_nC]
  unfold fitsC
  have HG1 := Lib.hid (fun w => may1_any u.1 w u.1.isLt)
  have HG2 := Lib.hid (fun w => may1_any u.2 w u.2.isLt)
  have hlt := World.block_lt_of_cell? _ _ h
  go_enter Try.func20, Try.ntmps20
  cases h1 : fitsB W880 u.1
  · rw [h1] at HG1
    go_wp2_with fail
    refine (HG1.out _).mono ?_
    rintro z w' ⟨rfl, rfl⟩
    go_wp2
    go_ret
    exact ⟨rfl, (Below.refl _ _).alloc (Nat.le_refl _) _⟩
  · rw [h1] at HG1
    go_wp2_with fail
    refine (HG1.out _).mono ?_
    rintro z w' ⟨rfl, rfl⟩
    go_wp2_with fail
    refine (HG2.out _).mono ?_
    rintro z w' ⟨rfl, rfl⟩
    go_wp2
    go_ret
    exact ⟨by simp, (Below.refl _ _).alloc (Nat.le_refl _) _⟩
set_option maxRecDepth 100000 in
set_option maxHeartbeats 1000000 in
theorem ContainsC_no (b : Nat) (X : Option Addr) (n c : Nat) (x : Nat → Cx) (w : World) (hX : CsAt w X n x) (hn : n ≤ 4398046511104) (hb : FnBox w b 17) (hx : ∀ i, i < n → fitsC W880 (x i) = true) :
    Calls Try.prog 19 #[.slice X n c, .func (.func 20) #[] #[.pointer (some ⟨b, 0, none⟩)]] w fun z w' => z = .returned (.bool false) ∧ Below w.heap.size w w' := by
  have hi : idxI (badC W880) x n = -1 := idxI_no.2 fun i hi => by unfold badC; rw [hx i hi]; rfl
  have h := IndexFuncC_any 20 b 17 (badC W880) (fun args w => enters_of Try.func20 (by kernel_rfl) rfl args w) (fun u w h => may2_any u _ w h) X n c x w hX hn hb
  rw [hi] at h
  have HH := Lib.hid h
  clear h hi hx hX
  go_enter Try.func19, Try.ntmps19
  go_wp2_with fail
  refine HH.out.mono ?_
  rintro z w' ⟨rfl, hb2⟩
  have HB := Lib.hid hb2
  clear hb2
  go_wp2
  go_ret
  exact ⟨rfl, HB.out⟩

/-- All plans can be, for these dimensions. -/
def PlansOk (w : World) (D : Nat) (f : Nat → Int) (p : Nat → PQ) : Prop := ∀ i, i < D → (p i).n = f i ∧ ∀ w', Below w.heap.size w w' → ∀ t : Int, t = (p i).n →
  Calls Try.prog 16 #[(p i).v, .int .i64 t] w' fun z w'' => (∃ a : Int, z = .returned (.tuple #[.int .i64 a, .int .i64 0])) ∧ Below w'.heap.size w' w''

set_option maxRecDepth 100000 in
set_option maxHeartbeats 4000000 in
theorem mmay_ok (PA A X : Option Addr) (D cp ca l cx : Nat) (f : Nat → Int) (p : Nat → PQ) (x : Nat → Cx) (s : Int) (hs : s = 1 ∨ s = -1) (w : World) (hA : IntsAt w A D f) (hP : PlsAt w PA D p) (hX : CsAt w X l x) (hl : l ≤ 4398046511104)
    (hsz : sizeB f D = true) (hln : (l : Int) = preP f D) (hok : PlansOk w D f p) (hx : ∀ i, i < l → fitsC W880 (x i) = true) :
    Calls Try.prog 10 #[.slice PA D cp, .slice A D ca, .slice X l cx, .int .i64 s] w fun z w' => z = .returned (.int .i64 0) ∧ Below w.heap.size w w' := by
  have hS := Size_any A D ca f w hA
  have hv : sizeV f D = (l : Int) := by unfold sizeV; rw [hsz, if_pos rfl, hln]
  rw [hv, hsz] at hS
  have HS := Lib.hid hS
  have HA := Lib.hid hA
  have HP := Lib.hid hP
  have HX := Lib.hid hX
  have HOK := Lib.hid hok
  have HFX := Lib.hid hx
  have HSG := Lib.hid hs
  have hD8 : D ≤ 8 := by unfold sizeB at hsz; simp only [Bool.and_eq_true, decide_eq_true_eq] at hsz; exact hsz.1.2
  clear hS hA hP hX hok hx hv hsz hln hs
  go_enter Try.func10, Try.ntmps10
  go_wp2_with fail
  refine HS.out.mono ?_
  rintro z w' ⟨rfl, rfl⟩
  go_wp2
  go_loopw [11, 12, 13, 14, 31] (fun v11 v12 v13 v14 vi wr => ∃ k : Nat, k ≤ D ∧ vi = .int .i64 k ∧ Hid (Below w'.heap.size w' wr)) (fun _ _ _ _ vi _ => D - (intOf vi).toNat)
  case atStart => exact ⟨0, by omega, rfl, Lib.hid (Below.refl _ _)⟩
  case round =>
    obtain ⟨k, hk, rfl, hb⟩ := hrel
    by_cases hlt : k < D
    · have hki : (k : Int) < D := by omega
      obtain ⟨b, o, rfl, p0, p1, p2, p3⟩ := (HP.out.of fun b o _ _ i v hv => keep_cell hb.out hv) k hlt
      obtain ⟨b', o', rfl, d0⟩ := HA.out.keep hb.out k hlt
      obtain ⟨hpn, hck⟩ := HOK.out k hlt
      have HCK := Lib.hid hck
      have HPN := Lib.hid hpn
      clear hpn hck
      obtain ⟨P, hP⟩ : ∃ P, p k = P := ⟨_, rfl⟩
      rw [hP] at p0 p1 p2 p3 HCK HPN
      obtain ⟨pk, pn, pr, pB, pl, pc⟩ := P
      dsimp only at p0 p1 p2 p3 HPN
      have HPN' := HPN.out
      try dsimp only at HPN'
      subst HPN'
      unfold PQ.v at HCK
      try dsimp only at HCK
      clear hP HPN
      go_upto_region 9 with (fail)
      obtain ⟨W1, hW1⟩ : ∃ W1, W1 = wr.alloc (.cells #[.int .i64 pk, .int .i64 (f k), .int .i64 pr, .slice pB pl pc] 35) := ⟨_, rfl⟩
      obtain ⟨q0, q1, q2, q3⟩ := PlBox.new wr pk (f k) pr pB pl pc 35
      have hb1 : Below wr.heap.size wr W1 := by rw [hW1]; exact (Below.refl _ _).alloc (Nat.le_refl _) _
      rw [← hW1] at q0 q1 q2 q3 ⊢
      have e0 := keep_cell hb1 d0
      have HB1 := Lib.hid (hb.out.trans (hb1.mono hb.out.size))
      obtain ⟨bx, hbx⟩ : ∃ bx, bx = wr.heap.size := ⟨_, rfl⟩
      rw [← hbx] at q0 q1 q2 q3 ⊢
      clear hW1 hb1 hb p0 p1 p2 p3 d0 hbx
      refine wp_region_S (fun w'' => (w''.cell? ⟨bx, 0, none⟩ = some (.int .i64 pk) ∧ w''.cell? ⟨bx, 1, none⟩ = some (.int .i64 (f k)) ∧ w''.cell? ⟨bx, 2, none⟩ = some (.int .i64 pr) ∧ w''.cell? ⟨bx, 3, none⟩ = some (.slice pB pl pc) ∧ w''.cell? ⟨b', o' + k, none⟩ = some (.int .i64 (f k))) ∧ Hid (Below W1.heap.size W1 w'')) 10 (by kernel_rfl) ?_
      have hS0 := (⟨⟨q0, q1, q2, q3, e0⟩, Lib.hid (Below.refl _ _).drew⟩ : (W1.drew.cell? ⟨bx, 0, none⟩ = some (.int .i64 pk) ∧ W1.drew.cell? ⟨bx, 1, none⟩ = some (.int .i64 (f k)) ∧ W1.drew.cell? ⟨bx, 2, none⟩ = some (.int .i64 pr) ∧ W1.drew.cell? ⟨bx, 3, none⟩ = some (.slice pB pl pc) ∧ W1.drew.cell? ⟨b', o' + k, none⟩ = some (.int .i64 (f k))) ∧ Hid (Below W1.heap.size W1 W1.drew))
      refine Takes.intro [0,1,2,3,4] ?_
      repeat (refine Takes.step (v := ?_) (by kernel_rfl) rfl (fun _ _ _ h => h) rfl hS0 (fun w hSw => by (try dsimp only at hSw); go_simp; try with_reducible rfl) ?_; try simp only [List.getElem_toArray, List.getElem_cons_zero, List.getElem_cons_succ, Act.put, List.setIfInBounds_toArray, List.set_cons_zero, List.set_cons_succ])
      refine Takes.nil ?_
      refine wpAnyS_one (i := 5) (by kernel_rfl) rfl rfl (fun K hK => ?_)
      go_simp
      refine (HCK.out _ (HB1.out.trans (hS0.2.out.mono HB1.out.size)) (f k) rfl).mono ?_
      rintro z w2 ⟨⟨a, rfl⟩, hb2⟩
      have HB2 : Hid (Below W1.heap.size W1 w2) := Lib.hid (hS0.2.out.trans (hb2.mono hS0.2.out.size))
      have hS1 : (w2.cell? ⟨bx, 0, none⟩ = some (.int .i64 pk) ∧ w2.cell? ⟨bx, 1, none⟩ = some (.int .i64 (f k)) ∧ w2.cell? ⟨bx, 2, none⟩ = some (.int .i64 pr) ∧ w2.cell? ⟨bx, 3, none⟩ = some (.slice pB pl pc) ∧ w2.cell? ⟨b', o' + k, none⟩ = some (.int .i64 (f k))) ∧ Hid (Below W1.heap.size W1 w2) := ⟨⟨keep_cell HB2.out q0, keep_cell HB2.out q1, keep_cell HB2.out q2, keep_cell HB2.out q3, keep_cell HB2.out e0⟩, HB2⟩
      clear hb2
      refine hK.out _ _ (fun _ => hS1) ?_
      clear hK K
      try simp only [List.getElem_toArray, List.getElem_cons_zero, List.getElem_cons_succ, Act.put, List.setIfInBounds_toArray, List.set_cons_zero, List.set_cons_succ]
      refine Takes.intro [6,7,8,9] ?_
      repeat (refine Takes.step (v := ?_) (by kernel_rfl) rfl (fun _ _ _ h => h) rfl hS1 (fun w hSw => by (try dsimp only at hSw); go_simp; try with_reducible rfl) ?_; try simp only [List.getElem_toArray, List.getElem_cons_zero, List.getElem_cons_succ, Act.put, List.setIfInBounds_toArray, List.set_cons_zero, List.set_cons_succ])
      refine Takes.nil ?_
      refine wpAnyS_end 1 10 (by kernel_rfl) (by decide) rfl ?_
      simp only [List.toList_toArray, List.drop_succ_cons, List.drop_zero]
      have HB3 := Lib.hid (HB1.out.trans (hS1.2.out.mono HB1.out.size))
      clear hS0 hS1 q0 q1 q2 q3 e0
      go_wp2
      exact ⟨⟨k + 1, by omega, by go_num, HB3⟩, by simp [intOf]; omega⟩
    · obtain rfl : k = D := by omega
      go_upto_region 14 with (fail)
      obtain ⟨W1, hW1⟩ : ∃ W1, W1 = wr.alloc (.cells #[.func (.func 17) #[] #[]] 52) := ⟨_, rfl⟩
      have hb1 : Below wr.heap.size wr W1 := by rw [hW1]; exact (Below.refl _ _).alloc (Nat.le_refl _) _
      have hF : FnBox W1 wr.heap.size 17 := by unfold FnBox; rw [hW1, World.cell?_alloc_new]; rfl
      rw [← hW1]
      have HB1 := Lib.hid (hb.out.trans (hb1.mono hb.out.size))
      have HC := Lib.hid (ContainsC_no wr.heap.size X l cx x W1 (HX.out.keep HB1.out) hl hF HFX.out)
      clear hW1 hb1 hF hb
      rcases HSG.out with rfl | rfl
      all_goals
        go_wp2_with fail
        refine HC.out.mono ?_
        rintro z w3 ⟨rfl, hb3⟩
        have HB3 := Lib.hid (HB1.out.trans (hb3.mono HB1.out.size))
        clear hb3
        go_wp2
        go_ret
        exact ⟨rfl, HB3.out⟩
end Go.Proofs.Ytbobmhobaaeohaa
