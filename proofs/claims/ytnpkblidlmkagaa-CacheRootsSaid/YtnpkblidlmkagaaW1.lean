/- The contracts of eft's functions: what they give, as plain functions of words. -/
import Derived.Test.YtnpkblidlmkagaaProg
import Derived.Test.YtnpkblidlmkagaaFl3
import Derived.WalkKit
import Derived.WalkLawsBesides
import Derived.KernelRfl
import Derived.Lib.Hide
namespace Go.Proofs.Ytnpkblidlmkagaa
open Go.RowKit Fl

theorem hadd {x y r : Nat} (h : fadd x y = some r) : ∀ t w, (binOp .add t (.float .f64 x) (.float .f64 y)).run Try.prog w = .ok (.float .f64 r) w := fun t w => run_float_arith w .add t .f64 x y r h
theorem hsub {x y r : Nat} (h : fsub x y = some r) : ∀ t w, (binOp .sub t (.float .f64 x) (.float .f64 y)).run Try.prog w = .ok (.float .f64 r) w := fun t w => run_float_arith w .sub t .f64 x y r h
theorem hmul {x y r : Nat} (h : fmul x y = some r) : ∀ t w, (binOp .mul t (.float .f64 x) (.float .f64 y)).run Try.prog w = .ok (.float .f64 r) w := fun t w => run_float_arith w .mul t .f64 x y r h
theorem hdiv {x y r : Nat} (h : fdiv x y = some r) : ∀ t w, (binOp .quo t (.float .f64 x) (.float .f64 y)).run Try.prog w = .ok (.float .f64 r) w := fun t w => run_float_arith w .quo t .f64 x y r h

theorem run_bits (x : Nat) (w : World) : (callFunc 81 #[.float .f64 x]).run Try.prog w = .ok (.value (.int .u64 x)) w := by
  rw [run_callFunc_extern Try.func81 (by kernel_rfl) (by kernel_rfl) (by kernel_rfl) (e := Extern.MathFloatBits.float64bits) (by kernel_rfl)]; rfl
theorem run_from (n : Int) (w : World) : (callFunc 75 #[.int .u64 n]).run Try.prog w = .ok (.value (.float .f64 n.toNat)) w := by
  rw [run_callFunc_extern Try.func75 (by kernel_rfl) (by kernel_rfl) (by kernel_rfl) (e := Extern.MathFloatBits.float64frombits) (by kernel_rfl)]; rfl

def sumF (x y : Nat) : Option (Nat × Nat) :=
  (fadd x y).bind fun s => (fsub s x).bind fun t => (fsub s t).bind fun u => (fsub x u).bind fun f => (fsub y t).bind fun d => (fadd f d).bind fun e => some (s, e)

theorem sum_any (x y s e : Nat) (w : World) (h : sumF x y = some (s, e)) :
    Calls Try.prog 53 #[.float .f64 x, .float .f64 y] w fun z w' => z = .returned (.tuple #[.float .f64 s, .float .f64 e]) ∧ w = w' := by
  simp only [sumF, Option.bind_eq_some_iff, Option.some.injEq, Prod.mk.injEq] at h
  obtain ⟨s', h1, t, h2, u, h3, f, h4, d, h5, e', h6, rfl, rfl⟩ := h
  replace h1 := hadd h1
  replace h2 := hsub h2
  replace h3 := hsub h3
  replace h4 := hsub h4
  replace h5 := hsub h5
  replace h6 := hadd h6
  go_enter Try.func53, Try.ntmps53
  go_wp2_with (simp only [h1, h2, h3, h4, h5, h6])
  go_ret2
  exact ⟨rfl, rfl⟩

def splitF (x : Nat) : Option (Nat × Nat) :=
  (fmul 4728779608772575232 x).bind fun c => (fsub c x).bind fun d => (fsub c d).bind fun h => (fsub x h).bind fun l => some (h, l)

theorem split_any (x h l : Nat) (w : World) (hf : splitF x = some (h, l)) :
    Calls Try.prog 60 #[.float .f64 x] w fun z w' => z = .returned (.tuple #[.float .f64 h, .float .f64 l]) ∧ w = w' := by
  simp only [splitF, Option.bind_eq_some_iff, Option.some.injEq, Prod.mk.injEq] at hf
  obtain ⟨c, h1, d, h2, h', h3, l', h4, rfl, rfl⟩ := hf
  replace h1 := hmul h1
  replace h2 := hsub h2
  replace h3 := hsub h3
  replace h4 := hsub h4
  go_enter Try.func60, Try.ntmps60
  go_wp2_with (simp only [h1, h2, h3, h4])
  go_ret2
  exact ⟨rfl, rfl⟩

def prodF (x y : Nat) : Option (Nat × Nat) :=
  (fmul x y).bind fun p => (splitF x).bind fun a => (splitF y).bind fun b =>
  (fmul a.1 b.1).bind fun q1 => (fsub q1 p).bind fun e1 =>
  (fmul a.1 b.2).bind fun q2 => (fadd e1 q2).bind fun e2 =>
  (fmul a.2 b.1).bind fun q3 => (fadd e2 q3).bind fun e3 =>
  (fmul a.2 b.2).bind fun q4 => (fadd e3 q4).bind fun e4 => some (p, e4)

theorem prod_any (x y p e : Nat) (w : World) (hf : prodF x y = some (p, e)) :
    Calls Try.prog 62 #[.float .f64 x, .float .f64 y] w fun z w' => z = .returned (.tuple #[.float .f64 p, .float .f64 e]) ∧ w = w' := by
  simp only [prodF, Option.bind_eq_some_iff, Option.some.injEq, Prod.mk.injEq] at hf
  obtain ⟨p', h0, ⟨a1, a2⟩, ha, ⟨b1, b2⟩, hb, q1, h1, e1, h2, q2, h3, e2, h4, q3, h5, e3, h6, q4, h7, e4, h8, rfl, rfl⟩ := hf
  replace h0 := hmul h0
  replace h1 := hmul h1
  replace h2 := hsub h2
  replace h3 := hmul h3
  replace h4 := hadd h4
  replace h5 := hmul h5
  replace h6 := hadd h6
  replace h7 := hmul h7
  replace h8 := hadd h8
  have HA := Lib.hid ha
  have HB := Lib.hid hb
  clear ha hb
  go_enter Try.func62, Try.ntmps62
  go_wp2_with (first | (simp only [h0, h1, h2, h3, h4, h5, h6, h7, h8]; done) | simp only [h0, h1, h2, h3, h4, h5, h6, h7, h8] | fail)
  refine (split_any _ _ _ _ HA.out).mono ?_
  rintro z w' ⟨rfl, rfl⟩
  go_wp2_with (first | simp only [h0, h1, h2, h3, h4, h5, h6, h7, h8] | fail)
  refine (split_any _ _ _ _ HB.out).mono ?_
  rintro z w' ⟨rfl, rfl⟩
  go_wp2_with (first | simp only [h0, h1, h2, h3, h4, h5, h6, h7, h8] | fail)
  go_ret2
  exact ⟨rfl, rfl⟩

end Go.Proofs.Ytnpkblidlmkagaa
