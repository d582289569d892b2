/- exec.may, exec.Execute. -/
import Derived.Test.YtbobmhobaaeohaaQ12
import Derived.Test.YtbobmhobaaeohaaQ9
import Derived.Test.YtbobmhobaaeohaaMC3
set_option linter.unusedSimpArgs false
set_option linter.unusedVariables false
namespace Go.Proofs.Ytbobmhobaaeohaa
open Go.RowKit Go.Lib

/-- Why a transform can't be: e of the plan, g of the numbers. -/
def mayE (e n : Int) (l : Nat) (s g : Int) : Int := if e ≠ 0 then e else if 16384 < n then 3 else if (l : Int) ≠ n then 4 else if s ≠ 1 ∧ s ≠ -1 then 6 else g
def guardE (x : Nat → Cx) (n : Nat) : Int := if idxI (badC W900) x n = -1 then 0 else 5
theorem guardE_zero {x : Nat → Cx} {n : Nat} : guardE x n = 0 ↔ ∀ i, i < n → fitsC W900 (x i) = true := by
  unfold guardE
  constructor
  · intro h i hi
    by_cases e : idxI (badC W900) x n = -1
    · have := idxI_no.1 e i hi
      unfold badC at this
      simpa using this
    · rw [if_neg e] at h; omega
  · intro h
    rw [if_pos (idxI_no.2 fun i hi => by unfold badC; rw [h i hi]; rfl)]

set_option maxRecDepth 100000 in
set_option maxHeartbeats 2000000 in
theorem may_any (kind n r : Int) (q : Fo) (e : Int) (C : ChkC kind n r q n e) (A : Option Addr) (c : Nat) (X : Option Addr) (l cx : Nat) (x : Nat → Cx) (s : Int) (w : World) (hk : Kids w A 0 q) (hX : CsAt w X l x) (hl : l ≤ 4398046511104) :
    Calls Try.prog 23 #[plV kind n r A q.len c, .slice X l cx, .int .i64 s] w fun z w' => z = .returned (.int .i64 (mayE e n l s (guardE x l))) ∧ Below w.heap.size w w' := by
  have HC := Lib.hid C
  have HX := Lib.hid hX
  have hg : ∀ w1, CsAt w1 X l x → Calls Try.prog 30 #[.slice X l cx] w1 fun z w' => (∃ a : Int, z = .returned (.tuple #[.int .i64 a, .int .i64 (guardE x l)])) ∧ Below w1.heap.size w1 w' := fun w1 h => Guard_any X l cx x w1 h hl
  generalize guardE x l = ge at *
  have HG := Lib.hid hg
  clear hg
  obtain ⟨er, her⟩ : ∃ er, er = mayE e n l s ge := ⟨_, rfl⟩
  rw [← her]
  have HE := Lib.hid her
  obtain ⟨W, hW⟩ : ∃ W, W = w.alloc (.cells #[.int .i64 kind, .int .i64 n, .int .i64 r, .slice A q.len c] 35) := ⟨_, rfl⟩
  have hb : Below w.heap.size w W := by rw [hW]; exact (Below.refl _ w).alloc (Nat.le_refl _) _
  obtain ⟨p0, p1, p2, p3⟩ := PlBox.new w kind n r A q.len c 35
  rw [← hW] at p0 p1 p2 p3
  have HB := Lib.hid hb
  have HK := Lib.hid (Kids.below hk hb)
  clear C hX her hb hk
  go_enter Try.func23, Try.ntmps23
  go_upto_region 1 with (fail)
  rw [← hW]
  clear hW
  go_wp2_with fail
  refine (HC.out W A c HK.out).mono ?_
  rintro z w1 ⟨⟨a, rfl⟩, hb1⟩
  have p1' := keep_cell hb1 p1
  have HB1 := Lib.hid (HB.out.trans (hb1.mono HB.out.size))
  have HX1 := Lib.hid (HX.out.keep HB1.out)
  clear hb1 p0 p1 p2 p3
  by_cases he : e = 0
  · subst he
    by_cases h1 : 16384 < n
    · obtain rfl : er = 3 := by rw [HE.out]; unfold mayE; rw [if_neg (by omega), if_pos h1]
      clear HE
      go_wp2
      go_ret
      exact ⟨rfl, HB1.out⟩
    · by_cases h2 : (l : Int) = n
      · have h1' : ¬ n > 16384 := h1
        have h1'' : n ≤ 16384 := by omega
        by_cases h3 : s = 1 ∨ s = -1
        · obtain rfl : er = ge := by rw [HE.out]; unfold mayE; rw [if_neg (by omega), if_neg h1, if_neg (by omega), if_neg (by omega)]
          clear HE
          rcases h3 with rfl | rfl
          all_goals
            go_wp2_with fail
            refine (HG.out _ HX1.out).mono ?_
            rintro z w2 ⟨⟨a2, rfl⟩, hb2⟩
            have HB2 := Lib.hid (HB1.out.trans (hb2.mono HB1.out.size))
            clear hb2
            go_wp2
            go_ret
            exact ⟨rfl, HB2.out⟩
        · have h4 : ¬ s = 1 := fun e => h3 (.inl e)
          have h5 : ¬ s = -1 := fun e => h3 (.inr e)
          obtain rfl : er = 6 := by rw [HE.out]; unfold mayE; rw [if_neg (by omega), if_neg h1, if_neg (by omega), if_pos ⟨h4, h5⟩]
          have h6 : (s != 1) = true := by simpa using h4
          have h7 : (s != -1) = true := by simpa using h5
          clear HE h3
          go_wp2
          go_ret
          exact ⟨rfl, HB1.out⟩
      · obtain rfl : er = 4 := by rw [HE.out]; unfold mayE; rw [if_neg (by omega), if_neg h1, if_pos h2]
        clear HE
        go_wp2
        go_ret
        exact ⟨rfl, HB1.out⟩
  · obtain rfl : er = e := by rw [HE.out]; unfold mayE; rw [if_pos he]
    clear HE
    go_wp2
    go_ret
    exact ⟨rfl, HB1.out⟩

set_option maxRecDepth 100000 in
set_option maxHeartbeats 2000000 in
theorem Execute_bad (kind n r : Int) (q : Fo) (e : Int) (C : ChkC kind n r q n e) (A : Option Addr) (c : Nat) (X : Option Addr) (l cx : Nat) (x : Nat → Cx) (s : Int) (w : World) (hk : Kids w A 0 q) (hX : CsAt w X l x) (hl : l ≤ 4398046511104) (hb : mayE e n l s (guardE x l) ≠ 0) :
    Calls Try.prog 14 #[plV kind n r A q.len c, .slice X l cx, .int .i64 s] w fun z w' => z = .returned (.tuple #[.slice none 0 0, .int .i64 (mayE e n l s (guardE x l))]) ∧ Below w.heap.size w w' := by
  obtain ⟨W, hW⟩ : ∃ W, W = w.alloc (.cells #[.int .i64 kind, .int .i64 n, .int .i64 r, .slice A q.len c] 35) := ⟨_, rfl⟩
  have hbb : Below w.heap.size w W := by rw [hW]; exact (Below.refl _ w).alloc (Nat.le_refl _) _
  have HM := Lib.hid (may_any kind n r q e C A c X l cx x s W (Kids.below hk hbb) (hX.keep hbb) hl)
  obtain ⟨er, her⟩ : ∃ er, er = mayE e n l s (guardE x l) := ⟨_, rfl⟩
  rw [← her] at hb HM ⊢
  have HB := Lib.hid hbb
  have h1 : (er == 0) = false := by simpa using hb
  have h2 : (er != 0) = true := by simpa using hb
  clear hbb C hk hX her
  go_enter Try.func14, Try.ntmps14
  go_upto_region 1 with (fail)
  rw [← hW]
  obtain ⟨p0, p1, p2, p3⟩ := PlBox.new w kind n r A q.len c 35
  rw [← hW] at p0 p1 p2 p3
  clear hW
  go_wp2_with fail
  refine HM.out.mono ?_
  rintro z w1 ⟨rfl, hb1⟩
  have HB1 := Lib.hid (HB.out.trans (hb1.mono HB.out.size))
  clear hb1 p0 p1 p2 p3
  go_wp2
  go_ret2
  exact ⟨rfl, HB1.out⟩

/-- What a plan gives over complex floats, wherever its roots are kept. -/
def PlanE (kind r : Int) (q : Fo) (N : Nat) (F : Tr Cx) : Prop := ∀ m : Nat, PlanX (XM m) (ringC m) kind N r q N F
theorem fresh_below {w w1 w2 : World} {m : Nat} (hb : Below w.heap.size w w1) (hm : w.heap.size ≤ m) (k : (XM m).On w1 w2) : Below w.heap.size w w2 :=
  ⟨k.fr.1.os.trans hb.os, k.fr.1.tape.trans hb.tape, k.fr.1.output.trans hb.output, Nat.le_trans hb.size k.fr.1.size, fun x hx => (k.fr.1.block x (Nat.lt_of_lt_of_le hx hb.size) (by omega)).trans (hb.block x hx)⟩

set_option maxRecDepth 100000 in
set_option maxHeartbeats 2000000 in
theorem Execute_ok (kind r : Int) (q : Fo) (N : Nat) (F : Tr Cx) (P : PlanE kind r q N F) (C : ChkC kind N r q N 0) (A : Option Addr) (c : Nat) (X : Option Addr) (cx : Nat) (x : Nat → Cx) (s : Int) (w : World) (hk : Kids w A 0 q) (hX : CsAt w X N x) (hN : N ≤ 16384) (hs : s = 1 ∨ s = -1) (hg : guardE x N = 0) :
    Calls Try.prog 14 #[plV kind N r A q.len c, .slice X N cx, .int .i64 s] w fun z w' => ∃ g, z = .returned (.tuple #[.slice (some ⟨g, 0, none⟩) N N, .int .i64 0]) ∧ w.heap.size ≤ g ∧ g < w'.heap.size ∧ RowC w' g N (F s x) ∧ Below w.heap.size w w' := by
  obtain ⟨W, hW⟩ : ∃ W, W = w.alloc (.cells #[.int .i64 kind, .int .i64 N, .int .i64 r, .slice A q.len c] 35) := ⟨_, rfl⟩
  have hbb : Below w.heap.size w W := by rw [hW]; exact (Below.refl _ w).alloc (Nat.le_refl _) _
  have hm := may_any kind N r q 0 C A c X N cx x s W (Kids.below hk hbb) (hX.keep hbb) (by omega)
  rw [show mayE 0 N N s (guardE x N) = 0 by rw [hg]; unfold mayE; rw [if_neg (by omega), if_neg (by omega), if_neg (by omega), if_neg (by omega)]] at hm
  have HM := Lib.hid hm
  have HB := Lib.hid hbb
  have HC := Lib.hid C
  have HP := Lib.hid P
  have HK := Lib.hid hk
  have HX := Lib.hid hX
  have HS := Lib.hid hs
  clear hbb C hk hX hm P hs hg
  go_enter Try.func14, Try.ntmps14
  go_upto_region 1 with (fail)
  rw [← hW]
  obtain ⟨p0, p1, p2, p3⟩ := PlBox.new w kind N r A q.len c 35
  rw [← hW] at p0 p1 p2 p3
  clear hW
  go_wp2_with fail
  refine HM.out.mono ?_
  rintro z w1 ⟨rfl, hb1⟩
  have q0 := keep_cell hb1 p0
  have q1 := keep_cell hb1 p1
  have q2 := keep_cell hb1 p2
  have q3 := keep_cell hb1 p3
  have HB1 := Lib.hid (HB.out.trans (hb1.mono HB.out.size))
  clear hb1 p0 p1 p2 p3
  obtain ⟨W2, hW2⟩ : ∃ W2, W2 = w1.alloc (.map #[] 0) := ⟨_, rfl⟩
  have hmm : (Instr.makeMap 59 none).run Try.prog w1 = .ok (.map (some w1.heap.size)) W2 := by rw [hW2]; simp [Instr.makeMap]
  have hb12 : Below w1.heap.size w1 W2 := by rw [hW2]; exact (Below.refl _ _).alloc (Nat.le_refl _) _
  have r0 := keep_cell hb12 q0
  have r1 := keep_cell hb12 q1
  have r2 := keep_cell hb12 q2
  have r3 := keep_cell hb12 q3
  have hst : (XM w1.heap.size).St W2 := by rw [hW2]; exact XM_new w1
  have HST := Lib.hid hst
  have HB2' := Lib.hid (HB1.out.trans (hb12.mono HB1.out.size))
  clear hW2 hb12 q0 q1 q2 q3 hst
  go_wp2_with fail
  have hb2 := HB2'.out
  refine (RunC_r (ringC_ok w1.heap.size) kind r q N F (HP.out _) HC.out s HS.out _ A c X cx x (Kids.below HK.out hb2) (HX.out.keep hb2) HST.out).mono ?_
  rintro z w2 ⟨g, rfl, hg, ho, hon⟩
  have HG : Hid (w.heap.size ≤ g ∧ g < w2.heap.size) := Lib.hid ⟨by have := hb2.size; omega, ho.lt⟩
  have HR := Lib.hid ho.row
  have HB2 := Lib.hid (fresh_below hb2 HB1.out.size hon)
  clear hb2 hg ho hon r0 r1 r2 r3
  go_wp2
  go_ret2
  exact ⟨g, rfl, HG.out.1, HG.out.2, HR.out, HB2.out⟩
end Go.Proofs.Ytbobmhobaaeohaa
