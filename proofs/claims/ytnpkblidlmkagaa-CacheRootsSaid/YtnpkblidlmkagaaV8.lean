/- What layer 5's document fixes; the law TrigOctants. -/
import Derived.Test.YtnpkblidlmkagaaV6
import Derived.Test.YtnpkblidlmkagaaV7
set_option linter.unusedSimpArgs false
set_option linter.unusedVariables false
namespace Go.Proofs.Ytnpkblidlmkagaa
open Go.RowKit Fl

theorem oct14 : octO 1 4 = 2 ∧ octR 1 4 = 0 := by decide
theorem oct18 : octO 1 8 = 1 ∧ octR 1 8 = 8 := by decide
theorem oct38 : octO 3 8 = 3 ∧ octR 3 8 = 8 := by decide

theorem turn14 (w : World) : Calls Try.prog 47 #[.int .i64 1, .int .i64 4] w fun z w' => z = .returned (.tuple #[.float .f64 0, .float .f64 oneW]) ∧ Below w.heap.size w w' := by
  refine turn_of 1 4 0 0 oneW 0 0 oneW w (fun w => ?_) (by kernel_rfl) (by kernel_rfl)
  have h := exact_any 1 4 oneW 0 0 0 w (by omega) (by omega) (by rw [oct14.2]; exact near04) (by decide) (by decide)
  rw [oct14.1] at h
  have e1 : turnC 2 (oneW, 0) (0, 0) = (0, 0) := by kernel_rfl
  have e2 : turnS 2 (oneW, 0) (0, 0) = (oneW, 0) := by kernel_rfl
  rw [e1, e2] at h
  exact h

theorem turn18 (w : World) : Calls Try.prog 47 #[.int .i64 1, .int .i64 8] w fun z w' => z = .returned (.tuple #[.float .f64 4604544271217802189, .float .f64 4604544271217802189]) ∧ Below w.heap.size w w' := by
  obtain ⟨c, h8, rfl⟩ := near88
  refine turn_of 1 8 4604544271217802189 13586195916631729237 4604544271217802189 13586195916631729237 _ _ w (fun w => ?_) (by kernel_rfl) (by kernel_rfl)
  have h := exact_any 1 8 _ _ _ _ w (by omega) (by omega) (by rw [oct18.2]; exact h8) (by decide) (by decide)
  rw [oct18.1] at h
  have e1 : turnC 1 (4604544271217802189, 13586195916631729237) (4604544271217802189, 13586195916631729237) = (4604544271217802189, 13586195916631729237) := by kernel_rfl
  have e2 : turnS 1 (4604544271217802189, 13586195916631729237) (4604544271217802189, 13586195916631729237) = (4604544271217802189, 13586195916631729237) := by kernel_rfl
  rw [e1, e2] at h
  exact h

set_option maxRecDepth 100000 in
set_option maxHeartbeats 1000000 in
theorem wakes5_any (w : World) : Calls Try.prog 45 #[] w fun z w' => z = .returned (.bool true) ∧ Below w.heap.size w w' := by
  have T1 := Lib.hid turn14
  have T2 := Lib.hid turn18
  have c0 := octant_any 3 8
  rw [oct38.1, oct38.2] at c0
  have T3 := Lib.hid c0
  clear c0
  have o1 : (FloatKind.f64.format.order 0 0 == some Ordering.eq) = true := by kernel_rfl
  have o2 : (FloatKind.f64.format.order 4607182418800017408 4607182418800017408 == some Ordering.eq) = true := by kernel_rfl
  have o3 : (FloatKind.f64.format.order 4604544271217802189 4604544271217802189 == some Ordering.eq) = true := by kernel_rfl
  have o4 : (FloatKind.f64.format.order 4604544271217802189 4604480259023595110 == some Ordering.gt) = true := by kernel_rfl
  have o5 : (FloatKind.f64.format.order 4604544271217802189 4604570331016142520 == some Ordering.lt) = true := by kernel_rfl
  go_enter Try.func45, Try.ntmps45
  go_wp2_with fail
  refine (T1.out _).mono ?_
  rintro z w1 ⟨rfl, hb1⟩
  go_wp2_with fail
  refine (T2.out _).mono ?_
  rintro z w2 ⟨rfl, hb2⟩
  have B2 := Lib.hid (hb1.trans (hb2.mono hb1.size))
  clear hb1 hb2
  go_wp2_with fail
  refine (T3.out _ (by omega) (by omega)).mono ?_
  rintro z w3 ⟨rfl, rfl⟩
  go_wp2
  go_ret
  exact ⟨rfl, B2.out⟩

/-- Both octants are the same. -/
theorem octs_same (k m : Int) : ∃ o r : Int, (∀ w, Calls Try.prog 43 #[.int .i64 k, .int .i64 m] w fun z w' => z = .returned (.tuple #[.int .i64 o, .int .i64 r]) ∧ w = w') ∧
    ∀ w, Calls Try.prog 44 #[.int .i64 k, .int .i64 m] w fun z w' => z = .returned (.tuple #[.int .i64 o, .int .i64 r]) ∧ w = w' := by
  by_cases h : m < 1 ∨ 1099511627776 < m
  · exact ⟨-1, 0, fun w => octant_bad k m w h, fun w => refOctant_bad k m w h⟩
  · exact ⟨octO k m, octR k m, fun w => octant_any k m w (by omega) (by omega), fun w => refOctant_any k m w (by omega) (by omega)⟩

set_option maxRecDepth 100000 in
set_option maxHeartbeats 1000000 in
theorem octants_all (k n : Int) (w : World) (hn : -9223372036854775808 ≤ n) (hn2 : n ≤ 9223372036854775807) :
    Calls Try.prog 8 #[.int .i64 k, .int .i64 n] w fun z w' => z = .returned (.bool true) ∧ Below w.heap.size w w' := by
  have PA := Lib.hid (fun w => parts5_any n 1099511627776 w hn hn2 (by omega) (by omega))
  obtain ⟨m, hm⟩ : ∃ m : Int, m = 1 + (if n < 0 then -(n + 1) else n) % 1099511627776 := ⟨_, rfl⟩
  rw [← hm] at PA
  clear hm
  obtain ⟨o, r, hA, hB⟩ := octs_same k n
  obtain ⟨o', r', hA', hB'⟩ := octs_same k m
  have A1 := Lib.hid hA
  have B1 := Lib.hid hB
  have A2 := Lib.hid hA'
  have B2 := Lib.hid hB'
  clear hA hB hA' hB'
  go_enter Try.func8, Try.ntmps8
  go_wp2_with fail
  refine (PA.out _).mono ?_
  rintro z w' ⟨rfl, rfl⟩
  go_wp2_with fail
  refine wp_loop_rounds 3 ?_
  rw [rounds_succ]
  go_wp2_with fail
  refine (A1.out _).mono ?_
  rintro z w' ⟨rfl, rfl⟩
  go_wp2_with fail
  refine (B1.out _).mono ?_
  rintro z w' ⟨rfl, rfl⟩
  go_wp2_with fail
  rw [rounds_succ]
  go_wp2_with fail
  refine (A2.out _).mono ?_
  rintro z w' ⟨rfl, rfl⟩
  go_wp2_with fail
  refine (B2.out _).mono ?_
  rintro z w' ⟨rfl, rfl⟩
  go_wp2_with fail
  rw [rounds_succ]
  go_wp2_with fail
  refine (wakes5_any _).mono ?_
  rintro z w3 ⟨rfl, hb⟩
  go_wp2
  go_ret
  exact ⟨rfl, ((Below.refl _ w).alloc (Nat.le_refl _) _).trans (hb.mono (by simp))⟩

end Go.Proofs.Ytnpkblidlmkagaa
