/- Plans over rings of complex floats: a plan's contract; leaves; Run. -/
import Derived.Test.YtbobmhobaaeohaaMQ1
import Derived.Test.YtbobmhobaaeohaaRK
set_option linter.unusedSimpArgs false
set_option linter.unusedVariables false
namespace Go.Proofs.Ytbobmhobaaeohaa
open Go.RowKit Go.Lib
section
variable {M : Mem} {ρ : RingC}

/-- A runner as a value. -/
abbrev rnC (ρ : RingC) (s : Int) : Value := .agg #[.iface ρ.t ρ.v, .int .i64 s]
/-- A plan does F. -/
structure PlanX (M : Mem) (ρ : RingC) (kind n r : Int) (kids : Fo) (N : Nat) (F : Tr Cx) : Prop where
  run : ∀ s : Int, s = 1 ∨ s = -1 → ∀ (w : World) (A : Option Addr) (c : Nat) (X : Option Addr) (cx : Nat) (x : Nat → Cx), Kids w A 0 kids → CsAt w X N x → M.St w →
    Calls Try.prog 31 #[rnC ρ s, plV kind n r A kids.len c, .slice X N cx] w fun z w' => ∃ g, z = .returned (.slice (some ⟨g, 0, none⟩) N N) ∧ w.heap.size ≤ g ∧ OwnC M w' g N (F s x) ∧ M.On w w'

set_option maxRecDepth 100000 in
set_option maxHeartbeats 2000000 in
theorem planX_leaf (H : ρ.Ok M) (N : Nat) (h1 : 1 ≤ N) (h2 : N ≤ 32768) (kids : Fo) : PlanX M ρ 0 N 0 kids N (directF ρ.R N) := by
  refine ⟨fun s hs w A c X cx x hk hX hw => ?_⟩
  have HH := Lib.hid H
  have HX := Lib.hid hX
  have HW := Lib.hid hw
  clear H hk hX hw hs
  go_enter Try.func31, Try.ntmps31
  go_wp2_with fail
  have hb1 := boxes_on HH.out.mem HW.out (.cells #[.iface ρ.t ρ.v, .int .i64 s] 72) (.cells #[.int .i64 0, .int .i64 N, .int .i64 0, .slice A kids.len c] 35)
  refine (DirectC_r HH.out X N cx s x _ (HX.out.keepM HH.out.mem hb1 HW.out) h2 hb1.st).mono ?_
  rintro z w1 ⟨g, rfl, hg, ho, hb2⟩
  have HB := Lib.hid (hb1.trans HH.out.mem hb2)
  have HO := Lib.hid ho
  have HG : Hid (w.heap.size ≤ g) := Lib.hid (by have := HH.out.mem.size hb1.fr; omega)
  clear hb1 hb2 ho hg
  go_wp2
  go_ret
  exact ⟨g, rfl, HG.out, HO.out, HB.out⟩


set_option maxRecDepth 100000 in
set_option maxHeartbeats 2000000 in
theorem RunC_r (H : ρ.Ok M) (kind r : Int) (kids : Fo) (N : Nat) (F : Tr Cx) (P : PlanX M ρ kind N r kids N F) (C : ChkC kind N r kids N 0) (s : Int) (hs : s = 1 ∨ s = -1)
    (w : World) (A : Option Addr) (c : Nat) (X : Option Addr) (cx : Nat) (x : Nat → Cx) (hk : Kids w A 0 kids) (hX : CsAt w X N x) (hw : M.St w) :
    Calls Try.prog 24 #[.iface ρ.t ρ.v, plV kind N r A kids.len c, .slice X N cx, .int .i64 s] w fun z w' => ∃ g, z = .returned (.tuple #[.slice (some ⟨g, 0, none⟩) N N, .int .i64 0]) ∧ w.heap.size ≤ g ∧ OwnC M w' g N (F s x) ∧ M.On w w' := by
  have HH := Lib.hid H
  have HP := Lib.hid P
  have HC := Lib.hid C
  have HX := Lib.hid hX
  have HW := Lib.hid hw
  have HK := Lib.hid hk
  have HS := Lib.hid hs
  clear H P C hX hw hk
  have key : ∀ s : Int, s = 1 ∨ s = -1 → Calls Try.prog 24 #[.iface ρ.t ρ.v, plV kind N r A kids.len c, .slice X N cx, .int .i64 s] w fun z w' => ∃ g, z = .returned (.tuple #[.slice (some ⟨g, 0, none⟩) N N, .int .i64 0]) ∧ w.heap.size ≤ g ∧ OwnC M w' g N (F s x) ∧ M.On w w' := by
    intro s hs
    rcases hs with rfl | rfl
    all_goals
      go_enter Try.func24, Try.ntmps24
      go_wp2_with fail
      have hb1 := box_on HH.out.mem HW.out (.cells #[.int .i64 kind, .int .i64 N, .int .i64 r, .slice A kids.len c] 35)
      refine (HC.out _ A c (Kids.keep HH.out.mem hb1 HW.out HK.out)).mono ?_
      rintro z w1 ⟨⟨a, rfl⟩, hb⟩
      have HB1 := Lib.hid (hb1.below HH.out.mem hb)
      have p0 := keep_cell hb (show (w.alloc (.cells #[.int .i64 kind, .int .i64 N, .int .i64 r, .slice A kids.len c] 35)).cell? ⟨w.heap.size, 0, none⟩ = some (.int .i64 kind) by simp [go_sem])
      have p1 := keep_cell hb (show (w.alloc (.cells #[.int .i64 kind, .int .i64 N, .int .i64 r, .slice A kids.len c] 35)).cell? ⟨w.heap.size, 1, none⟩ = some (.int .i64 N) by simp [go_sem])
      have p2 := keep_cell hb (show (w.alloc (.cells #[.int .i64 kind, .int .i64 N, .int .i64 r, .slice A kids.len c] 35)).cell? ⟨w.heap.size, 2, none⟩ = some (.int .i64 r) by simp [go_sem])
      have p3 := keep_cell hb (show (w.alloc (.cells #[.int .i64 kind, .int .i64 N, .int .i64 r, .slice A kids.len c] 35)).cell? ⟨w.heap.size, 3, none⟩ = some (.slice A kids.len c) by simp [go_sem])
      clear hb hb1
      go_wp2_with fail
      refine (HP.out.run _ (by first | exact .inl rfl | exact .inr rfl) _ A c X cx x (Kids.keep HH.out.mem HB1.out HW.out HK.out) (HX.out.keepM HH.out.mem HB1.out HW.out) HB1.out.st).mono ?_
      rintro z w2 ⟨g, rfl, hg, ho, hb2⟩
      have HO := Lib.hid ho
      have HB := Lib.hid (HB1.out.trans HH.out.mem hb2)
      have HG : Hid (w.heap.size ≤ g) := Lib.hid (by have := HH.out.mem.size HB1.out.fr; omega)
      clear ho hb2 hg p0 p1 p2 p3
      go_wp2
      go_ret2
      exact ⟨g, rfl, HG.out, HO.out, HB.out⟩
  exact key s HS.out

set_option maxRecDepth 100000 in
set_option maxHeartbeats 2000000 in
theorem RunC_chk (v : Value) (kind n r : Int) (kids : Fo) (e : Int) (he : e ≠ 0) (C : ChkC kind n r kids n e) (s : Int) (l : Nat)
    (w : World) (A : Option Addr) (c : Nat) (X : Option Addr) (cx : Nat) (hk : Kids w A 0 kids) (hkk : ∀ w', Below w.heap.size w w' → Kids w' A 0 kids) :
    Calls Try.prog 24 #[v, plV kind n r A kids.len c, .slice X l cx, .int .i64 s] w fun z w' => z = .returned (.tuple #[.slice none 0 0, .int .i64 e]) ∧ Below w.heap.size w w' := by
  have HC := Lib.hid C
  have HK := Lib.hid hkk
  have he2 : (e == 0) = false := by simpa using he
  have he3 : (e != 0) = true := by simpa using he
  clear C hk hkk
  go_enter Try.func24, Try.ntmps24
  go_wp2_with fail
  have hb1 : Below w.heap.size w (w.alloc (.cells #[.int .i64 kind, .int .i64 n, .int .i64 r, .slice A kids.len c] 35)) := (Below.refl _ w).alloc (Nat.le_refl _) _
  refine (HC.out _ A c (HK.out _ hb1)).mono ?_
  rintro z w1 ⟨⟨a, rfl⟩, hb⟩
  have HB1 := Lib.hid (hb1.trans (hb.mono (by simp)))
  clear hb hb1
  go_wp2
  go_ret2
  exact ⟨rfl, HB1.out⟩
end
end Go.Proofs.Ytbobmhobaaeohaa
