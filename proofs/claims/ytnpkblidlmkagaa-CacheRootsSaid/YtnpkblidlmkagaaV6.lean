/- The contracts of Turn and of what layer 5's document fixes. -/
import Derived.Test.YtnpkblidlmkagaaV5
set_option linter.unusedSimpArgs false
set_option linter.unusedVariables false
namespace Go.Proofs.Ytnpkblidlmkagaa
open Go.RowKit Fl

set_option maxRecDepth 100000 in
set_option maxHeartbeats 2000000 in
theorem turn_of (k n : Int) (a b c d x y : Nat) (w : World) (he : ∀ w, Calls Try.prog 46 #[.int .i64 k, .int .i64 n] w fun z w' => z = .returned (.tuple #[num a b, num c d]) ∧ Below w.heap.size w w')
    (h1 : fadd a b = some x) (h2 : fadd c d = some y) :
    Calls Try.prog 47 #[.int .i64 k, .int .i64 n] w fun z w' => z = .returned (.tuple #[.float .f64 x, .float .f64 y]) ∧ Below w.heap.size w w' := by
  have HE := Lib.hid he
  have H1 := Lib.hid (fun w => float_any a b x w h1)
  have H2 := Lib.hid (fun w => float_any c d y w h2)
  clear he h1 h2
  go_enter Try.func47, Try.ntmps47
  go_wp2_with fail
  refine (HE.out _).mono ?_
  rintro z w1 ⟨rfl, hb1⟩
  have E1 : Hid (EX w1.heap.size (w1.heap.size + 1) a b c d w1 ((w1.alloc (.cells #[.float .f64 a, .float .f64 b] 25)).alloc (.cells #[.float .f64 c, .float .f64 d] 25))) :=
    Lib.hid ⟨(Two.new w1 _ _ _).alloc _, Two.new' (by simp) _ _ _, ((Below.refl _ w1).alloc (Nat.le_refl _) _).alloc (by simp) _, Nat.le_refl _, by omega, by omega⟩
  have B1 := Lib.hid hb1
  clear hb1 HE
  go_upto_region 2 with fail
  obtain ⟨W, hW⟩ : ∃ W, W = ((w1.alloc (.cells #[.float .f64 a, .float .f64 b] 25)).alloc (.cells #[.float .f64 c, .float .f64 d] 25)) := ⟨_, rfl⟩
  rw [← hW] at E1 ⊢
  clear hW
  obtain ⟨⟨p0, p1, p2, p3⟩, ⟨q0, q1, q2, q3⟩, lw0, lw1⟩ := E1.out.facts
  go_region_with (first
    | (go_at_call 34; refine (H1.out _).mono ?_; rintro z w7 ⟨rfl, hb⟩; have E7 := Lib.hid (EX.keep (by first | exact E1.out | exact E1.out.drew) hb); clear p0 p1 p2 p3 q0 q1 q2 q3 lw0 lw1; obtain ⟨⟨p0, p1, p2, p3⟩, ⟨q0, q1, q2, q3⟩, lw0, lw1⟩ := E7.out.facts)
    | (go_at_call 34; refine (H2.out _).mono ?_; rintro z w8 ⟨rfl, hb⟩; have E8 := Lib.hid (E7.out.keep hb); clear p0 p1 p2 p3 q0 q1 q2 q3 lw0 lw1; obtain ⟨⟨p0, p1, p2, p3⟩, ⟨q0, q1, q2, q3⟩, lw0, lw1⟩ := E8.out.facts))
  all_goals
    go_wp2_with fail
    go_ret2
    exact ⟨rfl, B1.out.trans (E8.out.b.mono B1.out.size)⟩

theorem near04 : nearF 0 4 = some ((oneW, 0), (0, 0)) := by unfold nearF; rw [if_pos rfl]

end Go.Proofs.Ytnpkblidlmkagaa
