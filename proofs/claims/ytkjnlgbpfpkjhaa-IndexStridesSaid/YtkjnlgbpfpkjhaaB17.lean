/- The contract of Transpose. -/
import Derived.Test.YtkjnlgbpfpkjhaaP4
import Derived.Test.YtkjnlgbpfpkjhaaB13
import Derived.Test.YtkjnlgbpfpkjhaaB9
import Derived.Deep.LoopGhost
set_option linter.unusedSimpArgs false
set_option linter.unusedVariables false
namespace Go.Proofs.Ytkjnlgbpfpkjhaa
open Go.RowKit

set_option maxRecDepth 100000 in
theorem Transpose_arg (A : Option Addr) (n c : Nat) (R C : Int) (w : World) (h : R < 1 ∨ C < 1) :
    Calls Try.prog 22 #[.slice A n c, .int .i64 R, .int .i64 C] w fun z w' => z = .returned (.int .i64 2) ∧ w = w' := by
  by_cases h1 : R < 1
  · clear h
    go_enter Try.func22, Try.ntmps22
    go_wp2
    go_ret
    exact ⟨rfl, rfl⟩
  · have h2 : C < 1 := by omega
    clear h
    go_enter Try.func22, Try.ntmps22
    go_wp2
    go_ret
    exact ⟨rfl, rfl⟩

set_option maxRecDepth 100000 in
theorem Transpose_len (A : Option Addr) (n c : Nat) (R C : Int) (w : World) (hR : 1 ≤ R) (hC : 1 ≤ C) (hn : n ≤ 1048576) (h : ¬ R * C = n) :
    Calls Try.prog 22 #[.slice A n c, .int .i64 R, .int .i64 C] w fun z w' => z = .returned (.int .i64 4) ∧ w = w' := by
  by_cases h1 : (n : Int) < R
  · clear h
    go_enter Try.func22, Try.ntmps22
    go_wp2
    go_ret
    exact ⟨rfl, rfl⟩
  · have hm := Int.emod_nonneg (n : Int) (show R ≠ 0 by omega)
    have hm2 := Int.emod_lt_of_pos (n : Int) (show 0 < R by omega)
    have hd := Int.ediv_nonneg (show (0 : Int) ≤ n by omega) (show 0 ≤ R by omega)
    have hd2 := Int.ediv_le_self R (show (0 : Int) ≤ n by omega)
    by_cases h2 : (n : Int) % R = 0
    · have h3 : ((n : Int) / R != C) = true := by
        rw [bne_iff_ne]
        intro e
        apply h
        have := Int.mul_ediv_add_emod (n : Int) R
        rw [h2, e] at this
        omega
      have h4 : ((n : Int) % R != 0) = false := by rw [bne_eq_false_iff_eq]; exact h2
      clear h h2
      go_enter Try.func22, Try.ntmps22
      go_wp2
      go_ret
      exact ⟨rfl, rfl⟩
    · have h4 : ((n : Int) % R != 0) = true := by rw [bne_iff_ne]; exact h2
      clear h h2
      go_enter Try.func22, Try.ntmps22
      go_wp2
      go_ret
      exact ⟨rfl, rfl⟩

theorem OnlyB.setFar {b : Nat} {x y : World} (h : OnlyB b x y) {p : Addr} (hp : x.heap.size ≤ p.block) (v : Value) : OnlyB b x (y.setCell p v) :=
  ⟨h.os, h.tape, h.output, by simpa [World.setCell] using h.size, fun k hk hb => (Below.heap_setCell _ _ _ _ (by omega)).trans (h.block k hk hb)⟩
theorem RowB.far {w : World} {b n : Nat} {f : Nat → Bool} (h : RowB w b n f) {p : Addr} (hp : p.block ≠ b) (v : Value) : RowB (w.setCell p v) b n f := fun i hi =>
  ⟨by rw [World.cell?_setCell_other]
      · exact (h i hi).1
      · exact fun e => hp (congrArg Addr.block e), by rw [World.frozen?_setCell]; exact (h i hi).2⟩
theorem Row.far {w : World} {b n : Nat} {f : Nat → Int} (h : Row w b n f) {p : Addr} (hp : p.block ≠ b) (v : Value) : Row (w.setCell p v) b n f := fun i hi =>
  ⟨by rw [World.cell?_setCell_other]
      · exact (h i hi).1
      · exact fun e => hp (congrArg Addr.block e), by rw [World.frozen?_setCell]; exact (h i hi).2⟩
theorem RowB.drew {w : World} {b n : Nat} {f : Nat → Bool} (h : RowB w b n f) (m : Nat) : RowB (w.drewN m) b n f := fun i hi => h i hi
theorem Row.drewN {w : World} {b n : Nat} {f : Nat → Int} (h : Row w b n f) (m : Nat) : Row (w.drewN m) b n f := fun i hi => h i hi
theorem OnlyB.drewN {b : Nat} {x y : World} (h : OnlyB b x y) (m : Nat) : OnlyB b x (y.drewN m) := ⟨h.os, h.tape, h.output, h.size, h.block⟩

set_option maxRecDepth 100000 in
set_option maxHeartbeats 4000000 in
theorem Transpose_ok (b n c R C : Nat) (f : Nat → Int) (w : World) (hA : Row w b n f) (hR : 1 ≤ R) (hC : 1 ≤ C) (hn : n ≤ 1048576) (h : n = R * C) :
    Calls Try.prog 22 #[.slice (some ⟨b, 0, none⟩) n c, .int .i64 R, .int .i64 C] w fun z w' => z = .returned (.int .i64 0) ∧ Row w' b n (turnT f R C) ∧ OnlyB b w w' := by
  have hRn : R ≤ n := by rw [h]; exact Nat.le_mul_of_pos_right _ hC
  have hCn : C ≤ n := by rw [h]; exact Nat.le_mul_of_pos_left _ hR
  have hRi : (R : Int) ≤ n := by omega
  have hCi : (C : Int) ≤ n := by omega
  have d1 : ((n : Int) % (R : Int) != 0) = false := by
    rw [bne_eq_false_iff_eq, h, Int.natCast_mul]; simp
  have d2 : ((n : Int) / (R : Int) != (C : Int)) = false := by
    rw [bne_eq_false_iff_eq, h, Int.natCast_mul]; exact Int.mul_ediv_cancel_left _ (by omega)
  have dv := Int.ediv_nonneg (show (0 : Int) ≤ n by omega) (show (0 : Int) ≤ R by omega)
  have dv2 := Int.ediv_le_self (R : Int) (show (0 : Int) ≤ n by omega)
  have hbl := World.block_lt_of_cell? _ _ (hA 0 (by omega)).1
  have hbl : b < w.heap.size := hbl
  have hmk := mk62 n (by omega)
  have HA := Lib.hid hA
  have H := Lib.hid h
  have HP := Lib.hid (tp_perm R C)
  rw [← h] at HP
  clear hA h
  go_enter Try.func22, Try.ntmps22
  go_wp2
  go_loopw [8, 9, 10, 43] (fun q hd at_ i wr => ∃ (x : Nat) (g : Nat → Int), x ≤ n ∧ i = .int .i64 x ∧ Hid (RowB wr w.heap.size n (fun y => !keeps (tp R C) x y)) ∧ Hid (Row wr b n g) ∧ Hid (Moved (tp R C) f g n x) ∧ Hid (OnlyB b w wr)) (fun _ _ _ i _ => n - (intOf i).toNat)
  case atStart => exact ⟨0, f, by omega, rfl, Lib.hid ((zb_row n w).congr fun i hi => by rw [keeps_zero]; rfl), Lib.hid (HA.out.alloc _), Lib.hid (Moved.start _ _ _), Lib.hid ((OnlyB.refl _ _).alloc _)⟩
  case round =>
    obtain ⟨x, g, hx, rfl, hm, hr, hmv, ho⟩ := hrel
    by_cases hlt : x < n
    · have hxi : (x : Int) < n := by omega
      obtain ⟨s1, s2⟩ := hr.out x hlt
      obtain ⟨W1, hW1⟩ : ∃ W1, W1 = wr := ⟨_, rfl⟩
      rw [← hW1] at hm hr ho s1 s2 ⊢
      clear hW1
      go_wp2_with fail
      go_loopg [9, 10] (clen (tp R C) x) (fun gk hd at_ wi => ∃ j : Nat, j + gk = clen (tp R C) x ∧ at_ = .int .i64 (it (tp R C) x j) ∧ (∃ v, hd = .int .i64 v ∧ Hid (0 < gk → v = f (it (tp R C) x j))) ∧ Hid (RowB wi w.heap.size n (fun y => !clr (tp R C) x j y)) ∧ Hid (Row wi b n (putG (tp R C) f g x j)) ∧ Hid (OnlyB b w wi))
      case atStart => exact ⟨0, by omega, rfl, ⟨_, rfl, Lib.hid (fun h0 => (hmv.out x hlt).1 (by
        unfold clen at h0
        by_cases hl : lst (tp R C) x = true
        · exact hl
        · rw [if_neg hl] at h0; omega))⟩, Lib.hid (hm.out.congr fun i hi => by rw [clr_zero]), hr, ho⟩
      case round =>
        obtain ⟨j, hj, rfl, ⟨v, rfl, hv⟩, hmi, hri, hoi⟩ := hrel
        have hy := it_lt HP.out hlt j
        obtain ⟨r1, r2⟩ := hmi.out _ hy
        by_cases hg0 : 0 < gk
        · have hjl : j < clen (tp R C) x := by omega
          have hl : lst (tp R C) x = true := by
            unfold clen at hjl
            by_cases hl : lst (tp R C) x = true
            · exact hl
            · rw [if_neg hl] at hjl; omega
          have hjp : j < per (tp R C) x := by unfold clen at hjl; rwa [if_pos hl] at hjl
          simp only [clr_yes HP.out hlt hjl, Bool.not_true] at r1
          have hy' := it_lt HP.out hlt (j + 1)
          obtain ⟨q1, q2⟩ := hri.out _ hy'
          rw [putG_next HP.out hlt hmv.out hl hjp] at q1
          have hv' := hv.out hg0
          have EY : Hid (tp R C (it (tp R C) x j) = (it (tp R C) x (j + 1) : Nat)) := Lib.hid (by
            have := HP.out.lo _ hy
            show tp R C (it (tp R C) x j) = ((tp R C (it (tp R C) x j)).toNat : Int)
            omega)
          have HM2 : Hid (RowB _ w.heap.size n (fun y => !clr (tp R C) x (j + 1) y)) := Lib.hid ((hmi.out.set hy true).congr fun i hi => by
            have := clr_step (tp R C) x j i
            unfold updB at this ⊢
            rw [← this]
            split <;> rfl)
          obtain ⟨y, hyy⟩ : ∃ y, it (tp R C) x j = y := ⟨_, rfl⟩
          obtain ⟨y', hyy'⟩ : ∃ y', it (tp R C) x (j + 1) = y' := ⟨_, rfl⟩
          have HYY := Lib.hid hyy
          have HYY' := Lib.hid hyy'
          rw [hyy] at r1 r2 hy EY HM2 hv' ⊢
          rw [hyy'] at hy' q1 q2 EY
          clear hyy hyy' hjl hjp hl
          have HV := Lib.hid hv'
          clear hv'
          have hy1 : (y : Int) < n := by omega
          have hy2 : (y' : Int) < n := by omega
          have c1 := Int.emod_nonneg (y : Int) (show (C : Int) ≠ 0 by omega)
          have c2 := Int.emod_lt_of_pos (y : Int) (show (0 : Int) < C by omega)
          have c3 := Int.ediv_nonneg (show (0 : Int) ≤ y by omega) (show (0 : Int) ≤ C by omega)
          have c4 := Int.ediv_le_self (C : Int) (show (0 : Int) ≤ y by omega)
          have c5 : 0 ≤ (y : Int) % C * R := Int.mul_nonneg c1 (by omega)
          have c6 : (y : Int) % C * R + (y : Int) / C = y' := EY.out
          have c7 : (y : Int) % C * R ≤ 1048576 := by omega
          have c8 : IntKind.i64.wrap ((y : Int) % C * R) = (y : Int) % C * R := IntWalk.i64_in _ (by omega)
          have c9 : IntKind.i64.wrap ((y : Int) % C * R + (y : Int) / C) = y' := by rw [c6]; exact IntWalk.i64_in _ (by omega)
          go_wp2_with fail
          go_quiet (fail)
          go_wp2
          have HM3 := Lib.hid ((HM2.out.drew nq).far (p := ⟨b, y', none⟩) (by show b ≠ w.heap.size; omega) (.int .i64 v))
          have HR3 : Hid (Row _ b n (putG (tp R C) f g x (j + 1))) := Lib.hid ((((hri.out.far (p := ⟨w.heap.size, y, none⟩) (by show w.heap.size ≠ b; omega) (.bool true)).drewN nq).set hy' v).congr fun i hi => by
            unfold upd
            show _ = if i = it (tp R C) x (j + 1) then f (it (tp R C) x j) else putG (tp R C) f g x j i
            rw [HYY'.out, HYY.out, HV.out])
          have HO3 := Lib.hid (((hoi.out.setFar (p := ⟨w.heap.size, y, none⟩) (Nat.le_refl _) (.bool true)).drewN nq).setCell y' none (.int .i64 v))
          go_roundg (gk - 1)
          case rel => exact ⟨j + 1, by omega, by rw [HYY'.out], ⟨_, rfl, Lib.hid (fun _ => by rw [HYY'.out])⟩, HM3, HR3, HO3⟩
          case measure => omega
        · obtain rfl : j = clen (tp R C) x := by omega
          simp only [clr_no HP.out hlt, Bool.not_false] at r1
          have HM2 : Hid (RowB _ w.heap.size n (fun y => !keeps (tp R C) (x + 1) y)) := Lib.hid (hmi.out.congr fun i hi => by rw [clr_end HP.out hlt hi])
          have HMV : Hid (Moved (tp R C) f (putG (tp R C) f g x (clen (tp R C) x)) n (x + 1)) := Lib.hid (by
            unfold clen
            by_cases hl : lst (tp R C) x = true
            · rw [if_pos hl]; exact hmv.out.next HP.out hlt hl
            · rw [if_neg hl]; exact hmv.out.skip HP.out (by simpa using hl))
          obtain ⟨y, hyy⟩ : ∃ y, it (tp R C) x (clen (tp R C) x) = y := ⟨_, rfl⟩
          rw [hyy] at r1 r2 hy ⊢
          clear hyy
          have hy1 : (y : Int) < n := by omega
          go_wp2
          exact ⟨⟨x + 1, _, by omega, by go_num, HM2, hri, HMV, hoi⟩, by simp [intOf]; omega⟩
    · obtain rfl : x = n := by omega
      have HR : Hid (Row wr b x (turnT f R C)) := Lib.hid (hr.out.congr fun i hi => by
        have := hmv.out
        rw [H.out] at this hi
        exact this.turned hi)
      clear hlt hx
      go_wp2
      go_ret
      exact ⟨rfl, HR.out, ho.out⟩
end Go.Proofs.Ytkjnlgbpfpkjhaa
