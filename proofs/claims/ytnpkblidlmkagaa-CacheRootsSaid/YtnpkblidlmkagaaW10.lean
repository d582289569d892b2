/- What the document fixes of layer 3. -/
import Derived.Test.YtnpkblidlmkagaaW9
import Derived.Deep.RegionHeld3
set_option linter.unusedSimpArgs false
set_option linter.unusedVariables false
namespace Go.Proofs.Ytnpkblidlmkagaa
open Go.RowKit Fl

theorem ldexp_mul : fmul 4368491638549381120 6755399441055744 = some 1 := by kernel_rfl

set_option maxRecDepth 100000 in
theorem ldexp_one (w : World) :
    Calls Try.prog 112 #[.float .f64 4613937818241073152, .int .i64 (-1076)] w fun z w' => z = .returned (.float .f64 1) ∧ w = w' := by
  have hbits := run_bits
  have hfrom := run_from
  have c1 := fun w => isnan_any 4613937818241073152 false w (by kernel_rfl)
  have c2 := fun w => isinf_any 4613937818241073152 false w (by decide) (by kernel_rfl)
  have c3 := fun w => norm_any 4613937818241073152 w (by decide) (by kernel_rfl)
  have C1 := Lib.hid c1
  have C2 := Lib.hid c2
  have C3 := Lib.hid c3
  clear c1 c2 c3
  have o1 : (FloatKind.f64.format.order 4613937818241073152 0 == some Ordering.eq) = false := by kernel_rfl
  have b1 : bits BinOp.and IntKind.i64 1024 2047 = 1024 := by kernel_rfl
  have b2 : bits BinOp.andNot IntKind.u64 4613937818241073152 9218868437227405312 = 2251799813685248 := by kernel_rfl
  have b3 : bits BinOp.or IntKind.u64 2251799813685248 4503599627370496 = 6755399441055744 := by kernel_rfl
  have hm := hmul ldexp_mul
  go_enter Try.func112, Try.ntmps112
  go_wp2_with fail
  refine (C2.out _).mono ?_
  rintro z w' ⟨rfl, rfl⟩
  go_wp2_with fail
  refine (C1.out _).mono ?_
  rintro z w' ⟨rfl, rfl⟩
  go_wp2_with fail
  refine (C3.out _).mono ?_
  rintro z w' ⟨rfl, rfl⟩
  go_wp2_with (first | simp only [hm] | fail)
  go_ret
  exact ⟨rfl, rfl⟩

set_option maxRecDepth 100000 in
theorem ldexp2_one (w : World) :
    Calls Try.prog 106 #[.float .f64 4613937818241073152, .int .i64 (-1076)] w fun z w' => z = .returned (.float .f64 1) ∧ w = w' := by
  go_enter Try.func106, Try.ntmps106
  go_wp2_with fail
  refine (ldexp_one _).mono ?_
  rintro z w' ⟨rfl, rfl⟩
  go_wp2
  go_ret
  exact ⟨rfl, rfl⟩

set_option maxRecDepth 100000 in
theorem scale_one (w : World) :
    Calls Try.prog 85 #[.float .f64 4613937818241073152, .int .i64 (-1076)] w fun z w' => z = .returned (.float .f64 1) ∧ w = w' := by
  go_enter Try.func85, Try.ntmps85
  go_wp2_with fail
  refine (ldexp2_one _).mono ?_
  rintro z w' ⟨rfl, rfl⟩
  go_wp2
  go_ret
  exact ⟨rfl, rfl⟩

theorem max1 : fmaxF 0 4613937818241073152 = some 4613937818241073152 := by kernel_rfl
theorem max2 : fmaxF 4613937818241073152 4616189618054758400 = some 4616189618054758400 := by kernel_rfl

set_option maxRecDepth 100000 in
set_option maxHeartbeats 1000000 in
theorem top_34 (b : Nat) (w : World) (h0 : w.cell? ⟨b, 0, none⟩ = some (.float .f64 4613937818241073152)) (h1 : w.cell? ⟨b, 1, none⟩ = some (.float .f64 13839561654909534208)) :
    Calls Try.prog 58 #[.slice (some ⟨b, 0, none⟩) 2 2] w fun z w' => z = .returned (.tuple #[.int .i64 3, .bool true]) ∧ w = w' := by
  have n1 := Lib.hid (fun w => isnan_any 4613937818241073152 false w (by kernel_rfl))
  have i1 := Lib.hid (fun w => isinf_any 4613937818241073152 false w (by decide) (by kernel_rfl))
  have a1 := Lib.hid (fun w => abs_any 4613937818241073152 w (by decide))
  have n2 := Lib.hid (fun w => isnan_any 13839561654909534208 false w (by kernel_rfl))
  have i2 := Lib.hid (fun w => isinf_any 13839561654909534208 false w (by decide) (by kernel_rfl))
  have a2 := Lib.hid (fun w => abs_any 13839561654909534208 w (by decide))
  have f1 := Lib.hid (fun w => frexp2_any 4616189618054758400 w (by decide) (by kernel_rfl) (by kernel_rfl) (by kernel_rfl) (by kernel_rfl))
  have o1 : (FloatKind.f64.format.order 4616189618054758400 0 == some Ordering.eq) = false := by kernel_rfl
  have m1 : ∀ ts t w, (Builtin.max_ ts t #[.float .f64 0, .float .f64 (fabs 4613937818241073152)]).run Try.prog w = .ok (.float .f64 4613937818241073152) w := fun ts t w => run_max_float w ts t _ _ _ max1
  have m2 : ∀ ts t w, (Builtin.max_ ts t #[.float .f64 4613937818241073152, .float .f64 (fabs 13839561654909534208)]).run Try.prog w = .ok (.float .f64 4616189618054758400) w := fun ts t w => run_max_float w ts t _ _ _ max2
  go_enter Try.func58, Try.ntmps58
  go_wp2
  refine wp_loop_rounds 3 ?_
  rw [rounds_succ]
  go_wp2_with fail
  refine (n1.out _).mono ?_
  rintro z w' ⟨rfl, rfl⟩
  go_wp2_with fail
  refine (i1.out _).mono ?_
  rintro z w' ⟨rfl, rfl⟩
  go_wp2_with fail
  refine (a1.out _).mono ?_
  rintro z w' ⟨rfl, rfl⟩
  go_wp2_with (first | simp only [m1, m2] | fail)
  rw [rounds_succ]
  go_wp2_with fail
  refine (n2.out _).mono ?_
  rintro z w' ⟨rfl, rfl⟩
  go_wp2_with fail
  refine (i2.out _).mono ?_
  rintro z w' ⟨rfl, rfl⟩
  go_wp2_with fail
  refine (a2.out _).mono ?_
  rintro z w' ⟨rfl, rfl⟩
  go_wp2_with (first | simp only [m1, m2] | fail)
  rw [rounds_succ]
  go_wp2_with fail
  refine (f1.out _).mono ?_
  rintro z w' ⟨r, rfl, rfl⟩
  go_wp2
  go_ret2
  exact ⟨rfl, rfl⟩

/-- What the document fixes. -/
theorem t3 : sumF 4607182418800017408 4336966441157787648 = some (4607182418800017408, 4336966441157787648) := t1
theorem mild1 : mildB 6408622269748215808 = true := by kernel_rfl
theorem mild2 : mildB 6413125869375586304 = false := by kernel_rfl

set_option maxRecDepth 100000 in
set_option maxHeartbeats 1000000 in
theorem wakes3_any (w : World) :
    Calls Try.prog 54 #[] w fun z w' => z = .returned (.bool true) ∧ Below w.heap.size w w' := by
  have d1 := fun w => eftMild_any 6408622269748215808 w (by decide)
  have d2 := fun w => eftMild_any 6413125869375586304 w (by decide)
  rw [mild1] at d1
  rw [mild2] at d2
  have D1 := Lib.hid d1
  have D2 := Lib.hid d2
  clear d1 d2
  have o1 : (FloatKind.f64.format.order 4607182418800017408 4607182418800017408 == some Ordering.eq) = true := by kernel_rfl
  have o2 : (FloatKind.f64.format.order 4336966441157787648 4336966441157787648 == some Ordering.eq) = true := by kernel_rfl
  have o3 : (FloatKind.f64.format.order 1 1 == some Ordering.eq) = true := by kernel_rfl
  go_enter Try.func54, Try.ntmps54
  go_wp2_with fail
  refine (sum_any _ _ _ _ _ t3).mono ?_
  rintro z w' ⟨rfl, rfl⟩
  go_wp2_with fail
  refine (top_34 _ _ ?_ ?_).mono ?_
  · simp [go_sem]
  · simp [go_sem]
  rintro z w' ⟨rfl, rfl⟩
  go_wp2_with fail
  refine (scale_one _).mono ?_
  rintro z w' ⟨rfl, rfl⟩
  go_wp2_with fail
  refine (D1.out _).mono ?_
  rintro z w' ⟨rfl, rfl⟩
  go_wp2_with fail
  refine (D2.out _).mono ?_
  rintro z w' ⟨rfl, rfl⟩
  go_wp2
  go_ret
  refine ⟨rfl, ?_⟩
  exact (Below.refl _ _).alloc (Nat.le_refl _) _

end Go.Proofs.Ytnpkblidlmkagaa
