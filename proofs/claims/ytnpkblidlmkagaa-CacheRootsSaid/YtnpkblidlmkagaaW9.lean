/- The contracts of the library's functions on floats, and what the document fixes of layer 3. -/
import Derived.Test.YtnpkblidlmkagaaW7
set_option linter.unusedSimpArgs false
set_option linter.unusedVariables false
namespace Go.Proofs.Ytnpkblidlmkagaa
open Go.RowKit Fl

/-- The greater of two floats. -/
def fmaxF (x y : Nat) : Option Nat :=
  match D.order x y with
  | none => none
  | some .lt => some y
  | some .gt => some x
  | some .eq => some (if (D.read x).neg then y else x)

theorem run_max_float {P : Program} (w : World) (ts : Array TypeId) (t : TypeId) (x y r : Nat) (h : fmaxF x y = some r) :
    (Builtin.max_ ts t #[.float .f64 x, .float .f64 y]).run P w = .ok (.float .f64 r) w := by
  have e : Builtin.max2 (.float .f64 x) (.float .f64 y) = pure (.float .f64 r) := by
    unfold fmaxF at h
    unfold Builtin.max2
    show (match D.order x y with | none => _ | some .lt => _ | some .gt => _ | some .eq => _) = _
    split at h
    · cases h
    · cases h; rfl
    · cases h; rfl
    · cases h; rfl
  show ([Value.float .f64 y].foldlM Builtin.max2 (.float .f64 x)).run P w = _
  simp [List.foldlM, e]

theorem abs_word (x : Nat) (h : x < 2 ^ 64) : bits .andNot .u64 (x : Int) 9223372036854775808 = ((x % 9223372036854775808 : Nat) : Int) := by
  have := u64_andNot_nat x 9223372036854775808 (by omega) (by omega)
  rw [show ((9223372036854775808 : Nat) : Int) = 9223372036854775808 from rfl] at this
  rw [this, show (18446744073709551615 - 9223372036854775808 : Nat) = 2 ^ 63 - 1 from rfl, Nat.and_two_pow_sub_one_eq_mod]

def fabs (x : Nat) : Nat := x % 9223372036854775808

set_option maxRecDepth 100000 in
theorem abs_any (x : Nat) (w : World) (hx : x < 2 ^ 64) :
    Calls Try.prog 41 #[.float .f64 x] w fun z w' => z = .returned (.float .f64 (fabs x)) ∧ w = w' := by
  have hbits := run_bits
  have hfrom := run_from
  have h1 := abs_word x hx
  obtain ⟨y, hy⟩ : ∃ y, y = x % 9223372036854775808 := ⟨_, rfl⟩
  rw [← hy] at h1
  have HY := Lib.hid hy
  clear hy
  go_enter Try.func41, Try.ntmps41
  go_wp2
  go_ret
  refine ⟨?_, rfl⟩
  unfold fabs
  rw [← HY.out]
  rfl

theorem isnan_any (x : Nat) (v : Bool) (w : World) (hv : (FloatKind.f64.format.order x x != some Ordering.eq) = v) :
    Calls Try.prog 87 #[.float .f64 x] w fun z w' => z = .returned (.bool v) ∧ w = w' := by
  go_enter Try.func87, Try.ntmps87
  go_wp2
  go_ret
  exact ⟨rfl, rfl⟩

set_option maxRecDepth 100000 in
theorem isinf_any (x : Nat) (v : Bool) (w : World) (hx : x < 2 ^ 64) (hv : (FloatKind.f64.format.order (fabs x) 9218868437227405311 == some Ordering.gt) = v) :
    Calls Try.prog 88 #[.float .f64 x, .int .i64 0] w fun z w' => z = .returned (.bool v) ∧ w = w' := by
  go_enter Try.func88, Try.ntmps88
  go_wp2_with fail
  refine (abs_any x _ hx).mono ?_
  rintro z w' ⟨rfl, rfl⟩
  go_wp2
  go_ret
  exact ⟨rfl, rfl⟩

set_option maxRecDepth 100000 in
theorem norm_any (x : Nat) (w : World) (hx : x < 2 ^ 64) (hv : (FloatKind.f64.format.order (fabs x) 4503599627370496 == some Ordering.lt) = false) :
    Calls Try.prog 109 #[.float .f64 x] w fun z w' => z = .returned (.tuple #[.float .f64 x, .int .i64 0]) ∧ w = w' := by
  go_enter Try.func109, Try.ntmps109
  go_wp2_with fail
  refine (abs_any x _ hx).mono ?_
  rintro z w' ⟨rfl, rfl⟩
  go_wp2
  go_ret2
  exact ⟨rfl, rfl⟩

/-- The exponent field: what Frexp tells of a normal float. -/
theorem and2047 (x : Nat) (h : x < 2 ^ 64) : bits .and .u64 ((x : Int) / 4503599627370496) 2047 = ((x / 4503599627370496 % 2048 : Nat) : Int) := by
  have := u64_and_nat (x / 4503599627370496) 2047 (by omega) (by omega)
  rw [show ((2047 : Nat) : Int) = 2047 from rfl] at this
  rw [show ((x : Int) / 4503599627370496) = ((x / 4503599627370496 : Nat) : Int) from by simp, this, show (2047 : Nat) = 2 ^ 11 - 1 from rfl, Nat.and_two_pow_sub_one_eq_mod]

set_option maxRecDepth 100000 in
theorem frexp_any (x : Nat) (w : World) (hx : x < 2 ^ 64) (h0 : (FloatKind.f64.format.order x 0 == some Ordering.eq) = false)
    (h1 : (FloatKind.f64.format.order x x != some Ordering.eq) = false) (h2 : (FloatKind.f64.format.order (fabs x) 9218868437227405311 == some Ordering.gt) = false)
    (h3 : (FloatKind.f64.format.order (fabs x) 4503599627370496 == some Ordering.lt) = false) :
    Calls Try.prog 97 #[.float .f64 x] w fun z w' => ∃ r, z = .returned (.tuple #[.float .f64 r, .int .i64 (((x / 4503599627370496 % 2048 : Nat) : Int) - 1022)]) ∧ w = w' := by
  have hbits := run_bits
  have hfrom := run_from
  have c1 := fun w => isnan_any x _ w h1
  have c2 := fun w => isinf_any x _ w hx h2
  have c3 := fun w => norm_any x w hx h3
  have C1 := Lib.hid c1
  have C2 := Lib.hid c2
  have C3 := Lib.hid c3
  clear c1 c2 c3 h1 h2 h3
  have a1 := and2047 x hx
  obtain ⟨e, he⟩ : ∃ e, e = x / 4503599627370496 % 2048 := ⟨_, rfl⟩
  rw [← he] at a1 ⊢
  have hel : e < 2048 := by omega
  obtain ⟨E, hE⟩ : ∃ E : Int, E = (e : Int) - 1022 := ⟨_, rfl⟩
  have hE2 : (e : Int) - 1023 + 1 = E := by omega
  rw [← hE]
  clear he hE
  go_enter Try.func97, Try.ntmps97
  go_wp2_with fail
  refine (C2.out _).mono ?_
  rintro z w' ⟨rfl, rfl⟩
  go_wp2_with fail
  refine (C1.out _).mono ?_
  rintro z w' ⟨rfl, rfl⟩
  go_wp2_with fail
  refine (C3.out _).mono ?_
  rintro z w' ⟨rfl, rfl⟩
  go_wp2
  go_ret2
  exact ⟨_, rfl, rfl⟩

theorem frexp2_any (x : Nat) (w : World) (hx : x < 2 ^ 64) (h0 : (FloatKind.f64.format.order x 0 == some Ordering.eq) = false)
    (h1 : (FloatKind.f64.format.order x x != some Ordering.eq) = false) (h2 : (FloatKind.f64.format.order (fabs x) 9218868437227405311 == some Ordering.gt) = false)
    (h3 : (FloatKind.f64.format.order (fabs x) 4503599627370496 == some Ordering.lt) = false) :
    Calls Try.prog 80 #[.float .f64 x] w fun z w' => ∃ r, z = .returned (.tuple #[.float .f64 r, .int .i64 (((x / 4503599627370496 % 2048 : Nat) : Int) - 1022)]) ∧ w = w' := by
  have c := fun w => frexp_any x w hx h0 h1 h2 h3
  obtain ⟨e, he⟩ : ∃ e : Int, e = ((x / 4503599627370496 % 2048 : Nat) : Int) - 1022 := ⟨_, rfl⟩
  rw [← he] at c ⊢
  have C := Lib.hid c
  clear c h0 h1 h2 h3 he
  go_enter Try.func80, Try.ntmps80
  go_wp2_with fail
  refine (C.out _).mono ?_
  rintro z w' ⟨r, rfl, rfl⟩
  go_wp2
  go_ret2
  exact ⟨r, rfl, rfl⟩

/-- Is a float mild? -/
def mildB (x : Nat) : Bool :=
  (D.order (fabs x) 0 == some .eq) || ((D.order (fabs x) 2805742567851819008 == some .gt || D.order (fabs x) 2805742567851819008 == some .eq) && (D.order (fabs x) 6408622269748215808 == some .lt || D.order (fabs x) 6408622269748215808 == some .eq))

set_option maxRecDepth 100000 in
theorem eftMild_any (x : Nat) (w : World) (hx : x < 2 ^ 64) :
    Calls Try.prog 55 #[.float .f64 x] w fun z w' => z = .returned (.bool (mildB x)) ∧ w = w' := by
  have c := fun w => abs_any x w hx
  obtain ⟨V, hV⟩ : ∃ V, V = mildB x := ⟨_, rfl⟩
  rw [← hV]
  unfold mildB at hV
  obtain ⟨b1, h1⟩ : ∃ b, (FloatKind.f64.format.order (fabs x) 0 == some Ordering.eq) = b := ⟨_, rfl⟩
  obtain ⟨b2, h2⟩ : ∃ b, (FloatKind.f64.format.order (fabs x) 2805742567851819008 == some Ordering.gt || FloatKind.f64.format.order (fabs x) 2805742567851819008 == some Ordering.eq) = b := ⟨_, rfl⟩
  obtain ⟨b3, h3⟩ : ∃ b, (FloatKind.f64.format.order (fabs x) 6408622269748215808 == some Ordering.lt || FloatKind.f64.format.order (fabs x) 6408622269748215808 == some Ordering.eq) = b := ⟨_, rfl⟩
  have hV2 : V = (b1 || (b2 && b3)) := by rw [hV, ← h1, ← h2, ← h3]; rfl
  clear hV
  generalize fabs x = y at *
  have C := Lib.hid c
  clear c
  go_enter Try.func55, Try.ntmps55
  go_wp2_with fail
  refine (C.out _).mono ?_
  rintro z w' ⟨rfl, rfl⟩
  cases b1
  · cases b2
    · go_wp2
      go_ret
      refine ⟨?_, rfl⟩
      rw [hV2]; rfl
    · go_wp2
      go_ret
      refine ⟨?_, rfl⟩
      rw [hV2]; rfl
  · go_wp2
    go_ret
    refine ⟨?_, rfl⟩
    rw [hV2]; rfl

end Go.Proofs.Ytnpkblidlmkagaa
