/- Guards: are all numbers within bounds? -/
import Derived.Test.YtbobmhobaaeohaaQ10
import Derived.Test.YtbobmhobaaeohaaQ5
import Derived.Laws.BitsAllLaws
set_option linter.unusedSimpArgs false
set_option linter.unusedVariables false
namespace Go.Proofs.Ytbobmhobaaeohaa
open Go.RowKit Go.Lib

@[go_sem] theorem run_storeFn {P : Program} (w : World) (a : Addr) (m : Mode) (f : Fn) (x y : Array Value) : (store a (.func f x y) m).run P w = stored P w a (.func f x y) m := run_store P w a _ m rfl
theorem run_bitsF (x : Nat) (w : World) : (callFunc 28 #[.float .f64 x]).run Try.prog w = .ok (.value (.int .u64 x)) w := by
  rw [run_callFunc_extern Try.func28 (by kernel_rfl) (by kernel_rfl) (by kernel_rfl) (e := Extern.MathFloatBits.float64bits) (by kernel_rfl)]; rfl
theorem run_fromF (n : Int) (w : World) : (callFunc 27 #[.int .u64 n]).run Try.prog w = .ok (.value (.float .f64 n.toNat)) w := by
  rw [run_callFunc_extern Try.func27 (by kernel_rfl) (by kernel_rfl) (by kernel_rfl) (e := Extern.MathFloatBits.float64frombits) (by kernel_rfl)]; rfl
theorem absF_word (x : Nat) (h : x < 18446744073709551616) : bits .andNot .u64 (x : Int) 9223372036854775808 = ((x % 9223372036854775808 : Nat) : Int) := by
  have := u64_andNot_nat x 9223372036854775808 (by omega) (by omega)
  rw [show ((9223372036854775808 : Nat) : Int) = 9223372036854775808 from rfl] at this
  rw [this, show (18446744073709551615 - 9223372036854775808 : Nat) = 2 ^ 63 - 1 from rfl, Nat.and_two_pow_sub_one_eq_mod]
set_option maxRecDepth 100000 in
theorem absF_any (x : Nat) (w : World) (hx : x < 18446744073709551616) :
    Calls Try.prog 18 #[.float .f64 x] w fun z w' => z = .returned (.float .f64 (x % 9223372036854775808)) ∧ w = w' := by
  have hbits := run_bitsF
  have hfrom := run_fromF
  have h1 := absF_word x hx
  obtain ⟨y, hy⟩ : ∃ y, y = x % 9223372036854775808 := ⟨_, rfl⟩
  rw [← hy] at h1
  have HY := Lib.hid hy
  clear hy
  go_enter Try.func18, Try.ntmps18
  go_wp2
  go_ret
  refine ⟨?_, rfl⟩
  rw [← HY.out]
  rfl
/-- Is a float at most so great, whatever its sign? -/
def fitsB (lim x : Nat) : Bool := Ieee.double.order (x % 9223372036854775808) lim == some .lt || Ieee.double.order (x % 9223372036854775808) lim == some .eq
theorem isN_mod (x : Nat) : isN (x % 9223372036854775808) = isN x := by
  have hs : Ieee.double.signWeight = 9223372036854775808 := by decide
  unfold isN Ieee.Format.read
  dsimp only
  rw [hs, Nat.mod_mod]
  generalize x % 9223372036854775808 = r
  split
  · rfl
  · split
    · rfl
    · split <;> rfl
theorem fits_nan (lim x : Nat) (h : isN x = true) : fitsB lim x = false := by
  have h' : (Ieee.double.read (x % 9223372036854775808)).isNaN = true := by rw [← h, ← isN_mod x]; rfl
  unfold fitsB Ieee.Format.order
  cases hd : Ieee.double.read (x % 9223372036854775808) with
  | number a b c => rw [hd] at h'; cases h'
  | infinity a => rw [hd] at h'; cases h'
  | nan a b => cases Ieee.double.read lim <;> rfl
theorem fits_nz (lim x : Nat) : fitsB lim (nz x) = fitsB lim x := by
  cases h : isN x
  · rw [nz_of h]
  · rw [fits_nan lim x h, nz_eq, h]; exact fits_nan _ _ isN_nan
def W900 : Nat := 8660422083433463808
def fitsC (lim : Nat) (c : Cx) : Bool := fitsB lim c.1 && fitsB lim c.2
theorem fitsC_nC (lim : Nat) (u : Rx) : fitsC lim (nC u) = fitsC lim (u.1, u.2) := by unfold fitsC nC; simp only [fits_nz]

set_option maxRecDepth 100000 in
theorem guard1_any (x : Nat) (w : World) (hx : x < 18446744073709551616) :
    Calls Try.prog 35 #[.float .f64 x] w fun z w' => z = .returned (.bool (fitsB W900 x)) ∧ w = w' := by
  have HX := Lib.hid hx
  clear hx
  go_enter Try.func35, Try.ntmps35
  go_wp2_with fail
  refine (absF_any x _ HX.out).mono ?_
  rintro z w' ⟨rfl, rfl⟩
  go_wp2
  go_ret
  exact ⟨rfl, rfl⟩
/-- A box that holds a function. -/
def FnBox (w : World) (b : Nat) (f : FuncId) : Prop := w.cell? ⟨b, 0, none⟩ = some (.func (.func f) #[] #[])
set_option maxRecDepth 100000 in
set_option maxHeartbeats 1000000 in
theorem guard2_any (u : Rx) (b : Nat) (w : World) (h : FnBox w b 35) :
    Calls Try.prog 36 #[cV u, .pointer (some ⟨b, 0, none⟩)] w fun z w' => z = .returned (.bool (!fitsC W900 (nC u))) ∧ Below w.heap.size w w' := by
  have h := h
  unfold FnBox at h
  rw [fitsC_nC]
  unfold fitsC
  have HG1 := Lib.hid (fun w => guard1_any u.1 w u.1.isLt)
  have HG2 := Lib.hid (fun w => guard1_any u.2 w u.2.isLt)
  have hlt := World.block_lt_of_cell? _ _ h
  go_enter Try.func36, Try.ntmps36
  cases h1 : fitsB W900 u.1
  · rw [h1] at HG1
    go_wp2_with fail
    refine (HG1.out _).mono ?_
    rintro z w' ⟨rfl, rfl⟩
    go_wp2
    go_ret
    exact ⟨rfl, (Below.refl _ _).alloc (Nat.le_refl _) _⟩
  · rw [h1] at HG1
    go_wp2_with fail
    refine (HG1.out _).mono ?_
    rintro z w' ⟨rfl, rfl⟩
    go_wp2_with fail
    refine (HG2.out _).mono ?_
    rintro z w' ⟨rfl, rfl⟩
    go_wp2
    go_ret
    exact ⟨by simp, (Below.refl _ _).alloc (Nat.le_refl _) _⟩
end Go.Proofs.Ytbobmhobaaeohaa
