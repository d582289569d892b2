/- The contracts of dd's functions: what they give, as plain functions of words. -/
import Derived.Test.YtnpkblidlmkagaaW1
import Derived.BigQuiet
import Derived.Deep.QuietTactic
set_option linter.unusedSimpArgs false
set_option linter.unusedVariables false
namespace Go.Proofs.Ytnpkblidlmkagaa
open Go.RowKit Fl

@[go_sem] theorem run_store_float {P : Program} (w : World) (a : Addr) (m : Mode) (k : FloatKind) (b : Nat) : (store a (.float k b) m).run P w = stored P w a (.float k b) m := run_store P w a _ m rfl

/-- A number: two floats. -/
abbrev num (h l : Nat) : Value := .agg #[.float .f64 h, .float .f64 l]

theorem bcell {W w1 : World} (hb : Below W.heap.size W w1) : (∀ b o, b < W.heap.size → w1.cell? ⟨b, o, none⟩ = W.cell? ⟨b, o, none⟩) ∧ (∀ b o, b < W.heap.size → w1.frozen? ⟨b, o, none⟩ = W.frozen? ⟨b, o, none⟩) :=
  ⟨fun b o h => hb.cell (p := ⟨b, o, none⟩) h, fun b o h => hb.frozen (p := ⟨b, o, none⟩) h⟩

theorem keep_cell {W w1 : World} (hb : Below W.heap.size W w1) {b o : Nat} {v : Value} (h : W.cell? ⟨b, o, none⟩ = some v) : w1.cell? ⟨b, o, none⟩ = some v := by
  rw [hb.cell (p := ⟨b, o, none⟩) (World.block_lt_of_cell? _ _ h)]; exact h
theorem keep_free {W w1 : World} (hb : Below W.heap.size W w1) {b o : Nat} (hl : b < W.heap.size) (h : W.frozen? ⟨b, o, none⟩ = false) : w1.frozen? ⟨b, o, none⟩ = false := by
  rw [hb.frozen (p := ⟨b, o, none⟩) hl]; exact h

/-- A block of two cells that may be written. -/
def Two (w : World) (b : Nat) (u v : Value) : Prop :=
  w.cell? ⟨b, 0, none⟩ = some u ∧ w.cell? ⟨b, 1, none⟩ = some v ∧ w.frozen? ⟨b, 0, none⟩ = false ∧ w.frozen? ⟨b, 1, none⟩ = false

theorem Two.keep {W w1 : World} {b : Nat} {u v : Value} (hb : Below W.heap.size W w1) (h : Two W b u v) : Two w1 b u v :=
  have hl := World.block_lt_of_cell? _ _ h.1
  ⟨keep_cell hb h.1, keep_cell hb h.2.1, keep_free hb hl h.2.2.1, keep_free hb hl h.2.2.2⟩

theorem Two.lt {W : World} {b : Nat} {u v : Value} (h : Two W b u v) : b < W.heap.size := World.block_lt_of_cell? _ _ h.1

theorem new_any (x y s e : Nat) (w : World) (hf : sumF x y = some (s, e)) :
    Calls Try.prog 26 #[.float .f64 x, .float .f64 y] w fun z w' => z = .returned (num s e) ∧ Below w.heap.size w w' := by
  have HF := Lib.hid hf
  clear hf
  go_enter Try.func26, Try.ntmps26
  go_wp2_with (go_at_call 53; refine (sum_any _ _ _ _ _ HF.out).mono ?_; rintro z w' ⟨rfl, rfl⟩)
  refine bodyPost_ret (v := num s e) (by simp [results, Try.results26, go_sem]) rfl ⟨rfl, ?_⟩
  exact (Below.refl _ _).alloc (Nat.le_refl _) _

def fneg (x : Nat) : Nat := Op.negFloat .f64 x
@[go_sem] theorem unary_neg_float (x : Nat) : Op.unary .neg (.float .f64 x) = pure (.float .f64 (fneg x)) := rfl

theorem neg_any (x y : Nat) (w : World) :
    Calls Try.prog 29 #[num x y] w fun z w' => z = .returned (num (fneg x) (fneg y)) ∧ Below w.heap.size w w' := by
  go_enter Try.func29, Try.ntmps29
  go_wp2
  refine bodyPost_ret (v := num (fneg x) (fneg y)) (by simp [results, Try.results29, go_sem]) rfl ⟨rfl, ?_⟩
  exact ((Below.refl _ _).alloc (Nat.le_refl _) _).alloc (by simp) _

def addF (a b : Nat × Nat) : Option (Nat × Nat) :=
  (sumF a.1 b.1).bind fun s => (sumF a.2 b.2).bind fun t => (fadd s.2 t.1).bind fun g => (sumF s.1 g).bind fun n => (fadd n.2 t.2).bind fun k => sumF n.1 k

set_option maxHeartbeats 1000000 in
theorem add_any (a b c d x y : Nat) (w : World) (hf : addF (a, b) (c, d) = some (x, y)) :
    Calls Try.prog 39 #[num a b, num c d] w fun z w' => z = .returned (num x y) ∧ Below w.heap.size w w' := by
  simp only [addF, Option.bind_eq_some_iff] at hf
  obtain ⟨⟨s1, s2⟩, h1, ⟨t1, t2⟩, h2, g, h3, ⟨n1, n2⟩, h4, k, h5, h6⟩ := hf
  replace h3 := hadd h3
  replace h5 := hadd h5
  have H1 := Lib.hid h1
  have H2 := Lib.hid h2
  have H4 := Lib.hid h4
  have H6 := Lib.hid h6
  clear h1 h2 h4 h6
  go_enter Try.func39, Try.ntmps39
  go_wp2_with fail
  refine (sum_any _ _ _ _ _ H1.out).mono ?_
  rintro z w' ⟨rfl, rfl⟩
  go_wp2_with fail
  refine (sum_any _ _ _ _ _ H2.out).mono ?_
  rintro z w' ⟨rfl, rfl⟩
  go_wp2_with (first | simp only [h3, h5] | fail)
  refine (new_any _ _ _ _ _ H4.out).mono ?_
  rintro z w1 ⟨rfl, hb⟩
  obtain ⟨r0, r1, f0, f1⟩ := Two.keep hb (b := w.heap.size + 1 + 1) (u := .float .f64 0) (v := .float .f64 0) ⟨by simp [go_sem], by simp [go_sem], by simp [go_sem], by simp [go_sem]⟩
  have hz : w.heap.size + 1 + 1 < w1.heap.size := by have := hb.size; simp at this; omega
  have B1 := (((Below.refl _ w).alloc (Nat.le_refl _) _).alloc (by simp) _).alloc (by simp; omega) _ |>.trans (hb.mono (by simp; omega))
  clear hb
  go_wp2_with (first | simp only [h3, h5] | fail)
  refine (new_any _ _ _ _ _ H6.out).mono ?_
  rintro z w2 ⟨rfl, hb2⟩
  obtain ⟨s0, s1, g0, g1⟩ := Two.keep hb2 (b := w.heap.size + 1 + 1) (u := .float .f64 0) (v := .float .f64 0) ⟨by simp [go_sem, hz, r0], by simp [go_sem, hz, r1], by simp [go_sem, hz, f0], by simp [go_sem, hz, f1]⟩
  have B2 := (B1.alloc (by omega) _).trans (hb2.mono (by simp; omega))
  clear hb2
  go_wp2
  refine bodyPost_ret (v := num x y) (by simp [results, Try.results39, go_sem, s0, s1, g0, g1, hz]) rfl ⟨rfl, ?_⟩
  exact (B2.setCell (p := ⟨_, _, _⟩) (by show w.heap.size ≤ w.heap.size + 1 + 1; omega) _).setCell (p := ⟨_, _, _⟩) (by show w.heap.size ≤ w.heap.size + 1 + 1; omega) _

def mulF (a b : Nat × Nat) : Option (Nat × Nat) :=
  (prodF a.1 b.1).bind fun p => (fmul a.1 b.2).bind fun q => (fmul a.2 b.1).bind fun r => (fadd q r).bind fun t => (fadd p.2 t).bind fun e => sumF p.1 e

set_option maxHeartbeats 1000000 in
theorem mul_any (a b c d x y : Nat) (w : World) (hf : mulF (a, b) (c, d) = some (x, y)) :
    Calls Try.prog 35 #[num a b, num c d] w fun z w' => z = .returned (num x y) ∧ Below w.heap.size w w' := by
  simp only [mulF, Option.bind_eq_some_iff] at hf
  obtain ⟨⟨p, e⟩, h1, q, h2, r, h3, t, h4, e', h5, h6⟩ := hf
  replace h2 := hmul h2
  replace h3 := hmul h3
  replace h4 := hadd h4
  replace h5 := hadd h5
  have H1 := Lib.hid h1
  have H6 := Lib.hid h6
  clear h1 h6
  go_enter Try.func35, Try.ntmps35
  go_wp2_with fail
  refine (prod_any _ _ _ _ _ H1.out).mono ?_
  rintro z w' ⟨rfl, rfl⟩
  go_wp2_with (first | simp only [h2, h3, h4, h5] | fail)
  refine (new_any _ _ _ _ _ H6.out).mono ?_
  rintro z w1 ⟨rfl, hb⟩
  obtain ⟨r0, r1, f0, f1⟩ := Two.keep hb (b := w.heap.size + 1 + 1) (u := .float .f64 0) (v := .float .f64 0) ⟨by simp [go_sem], by simp [go_sem], by simp [go_sem], by simp [go_sem]⟩
  have B1 := (((Below.refl _ w).alloc (Nat.le_refl _) _).alloc (by simp) _).alloc (by simp; omega) _ |>.trans (hb.mono (by simp; omega))
  clear hb
  go_wp2
  refine bodyPost_ret (v := num x y) (by simp [results, Try.results35, go_sem, r0, r1, f0, f1]) rfl ⟨rfl, ?_⟩
  exact (B1.setCell (p := ⟨_, _, _⟩) (by show w.heap.size ≤ w.heap.size + 1 + 1; omega) _).setCell (p := ⟨_, _, _⟩) (by show w.heap.size ≤ w.heap.size + 1 + 1; omega) _

theorem float_any (a b r : Nat) (w : World) (hf : fadd a b = some r) :
    Calls Try.prog 34 #[num a b] w fun z w' => z = .returned (.float .f64 r) ∧ Below w.heap.size w w' := by
  replace hf := hadd hf
  go_enter Try.func34, Try.ntmps34
  go_wp2_with (first | simp only [hf] | fail)
  go_ret
  exact ⟨rfl, (Below.refl _ _).alloc (Nat.le_refl _) _⟩

end Go.Proofs.Ytnpkblidlmkagaa
