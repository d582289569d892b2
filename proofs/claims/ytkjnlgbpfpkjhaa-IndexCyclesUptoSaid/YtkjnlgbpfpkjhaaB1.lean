/- Words for memory: a slice that reads as integers, a row of the call's own; the contracts of product and Product. -/
import Derived.Test.YtkjnlgbpfpkjhaaProg
import Derived.Test.YtkjnlgbpfpkjhaaP1
import Derived.WalkKit
import Derived.WalkLawsBesides
import Derived.WalkSpells
import Derived.Lib.Hide
import Derived.Below
import Derived.BigQuiet
import Derived.Deep.QuietTactic
import Derived.Deep.CutRange
import Derived.Deep.RegionHeld3
set_option linter.unusedSimpArgs false
set_option linter.unusedVariables false
namespace Go.Proofs.Ytkjnlgbpfpkjhaa
open Go.RowKit

theorem keep_cell {W w1 : World} (hb : Below W.heap.size W w1) {b o : Nat} {v : Value} (h : W.cell? ⟨b, o, none⟩ = some v) : w1.cell? ⟨b, o, none⟩ = some v := by
  rw [hb.cell (p := ⟨b, o, none⟩) (World.block_lt_of_cell? _ _ h)]; exact h
theorem keep_free {W w1 : World} (hb : Below W.heap.size W w1) {b o : Nat} (hl : b < W.heap.size) (h : W.frozen? ⟨b, o, none⟩ = false) : w1.frozen? ⟨b, o, none⟩ = false := by
  rw [hb.frozen (p := ⟨b, o, none⟩) hl]; exact h

/-- The slice at A reads as the integers f 0, .., f (n - 1). -/
def IntsAt (w : World) (A : Option Addr) (n : Nat) (f : Nat → Int) : Prop := ∀ i, i < n → ∃ b o, A = some ⟨b, o, none⟩ ∧ w.cell? ⟨b, o + i, none⟩ = some (.int .i64 (f i))

theorem IntsAt.keep {W w1 : World} {A : Option Addr} {n : Nat} {f : Nat → Int} (hb : Below W.heap.size W w1) (h : IntsAt W A n f) : IntsAt w1 A n f := fun i hi => by
  obtain ⟨b, o, e, hc⟩ := h i hi
  exact ⟨b, o, e, keep_cell hb hc⟩
theorem IntsAt.drew {w : World} {A : Option Addr} {n : Nat} {f : Nat → Int} (h : IntsAt w A n f) : IntsAt w.drew A n f := fun i hi => h i hi
theorem IntsAt.alloc {w : World} {A : Option Addr} {n : Nat} {f : Nat → Int} (h : IntsAt w A n f) (o : Obj) : IntsAt (w.alloc o) A n f := h.keep ((Below.refl _ w).alloc (Nat.le_refl _) o)
theorem IntsAt.nil (w : World) (A : Option Addr) (f : Nat → Int) : IntsAt w A 0 f := fun i hi => by omega

/-- Of what was there block b alone may have turned. -/
structure OnlyB (b : Nat) (w w' : World) : Prop where
  os : w'.os = w.os
  tape : w'.tape = w.tape
  output : w'.output = w.output
  size : w.heap.size ≤ w'.heap.size
  block : ∀ k, k < w.heap.size → k ≠ b → w'.heap[k]? = w.heap[k]?

theorem OnlyB.refl (b : Nat) (w : World) : OnlyB b w w := ⟨rfl, rfl, rfl, Nat.le_refl _, fun _ _ _ => rfl⟩
theorem OnlyB.trans {b : Nat} {x y z : World} (h : OnlyB b x y) (k : OnlyB b y z) : OnlyB b x z :=
  ⟨k.os.trans h.os, k.tape.trans h.tape, k.output.trans h.output, Nat.le_trans h.size k.size, fun i hi hb => (k.block i (Nat.lt_of_lt_of_le hi h.size) hb).trans (h.block i hi hb)⟩
theorem OnlyB.drew {b : Nat} {x y : World} (h : OnlyB b x y) : OnlyB b x y.drew := ⟨h.os, h.tape, h.output, h.size, h.block⟩
theorem OnlyB.setCell {b : Nat} {x y : World} (h : OnlyB b x y) (o : Nat) (s : Option Nat) (v : Value) : OnlyB b x (y.setCell ⟨b, o, s⟩ v) :=
  h.trans ⟨rfl, rfl, rfl, by simp [World.setCell], fun k _ hk => Below.heap_setCell _ _ _ _ hk⟩
theorem OnlyB.alloc {b : Nat} {x y : World} (h : OnlyB b x y) (o : Obj) : OnlyB b x (y.alloc o) :=
  h.trans ⟨rfl, rfl, rfl, by simp, fun k hk _ => Below.heap_alloc _ _ _ hk⟩
theorem OnlyB.of_below {b : Nat} {x y : World} (h : Below x.heap.size x y) : OnlyB b x y := ⟨h.os, h.tape, h.output, h.size, fun k hk _ => h.block k hk⟩
theorem OnlyB.below {b c : Nat} {x y : World} (h : OnlyB b x y) (hb : c ≤ b) (hc : c ≤ x.heap.size) : Below c x y :=
  ⟨h.os, h.tape, h.output, h.size, fun k hk => h.block k (by omega) (by omega)⟩
theorem OnlyB.cell {b : Nat} {x y : World} (h : OnlyB b x y) {p : Addr} (hl : p.block < x.heap.size) (hp : p.block ≠ b) : y.cell? p = x.cell? p := World.cell?_of_block (w := x) (h.block p.block hl hp)
theorem OnlyB.frozen {b : Nat} {x y : World} (h : OnlyB b x y) {p : Addr} (hl : p.block < x.heap.size) (hp : p.block ≠ b) : y.frozen? p = x.frozen? p := World.frozen?_of_block (w := x) (h.block p.block hl hp)

/-- A row of integers in block b, from its start on, that may be written. -/
def Row (w : World) (b n : Nat) (f : Nat → Int) : Prop := ∀ i, i < n → w.cell? ⟨b, i, none⟩ = some (.int .i64 (f i)) ∧ w.frozen? ⟨b, i, none⟩ = false

def upd (f : Nat → Int) (j : Nat) (v : Int) : Nat → Int := fun i => if i = j then v else f i

theorem Row.drew {w : World} {b n : Nat} {f : Nat → Int} (h : Row w b n f) : Row w.drew b n f := fun i hi => h i hi
theorem Row.keep {W w1 : World} {b n : Nat} {f : Nat → Int} (hb : Below W.heap.size W w1) (h : Row W b n f) : Row w1 b n f := fun i hi =>
  ⟨keep_cell hb (h i hi).1, keep_free hb (World.block_lt_of_cell? _ _ (h i hi).1) (h i hi).2⟩
theorem Row.alloc {w : World} {b n : Nat} {f : Nat → Int} (h : Row w b n f) (o : Obj) : Row (w.alloc o) b n f := h.keep ((Below.refl _ w).alloc (Nat.le_refl _) o)
theorem Row.only {W w1 : World} {b c n : Nat} {f : Nat → Int} (ho : OnlyB c W w1) (hbc : b ≠ c) (h : Row W b n f) : Row w1 b n f := fun i hi => by
  have hl := World.block_lt_of_cell? _ _ (h i hi).1
  exact ⟨by rw [ho.cell (p := ⟨b, i, none⟩) hl hbc]; exact (h i hi).1, by rw [ho.frozen (p := ⟨b, i, none⟩) hl hbc]; exact (h i hi).2⟩
theorem IntsAt.only {W w1 : World} {c n : Nat} {A : Option Addr} {f : Nat → Int} (ho : OnlyB c W w1) (hbc : ∀ b o, A = some ⟨b, o, none⟩ → b ≠ c) (h : IntsAt W A n f) : IntsAt w1 A n f := fun i hi => by
  obtain ⟨b, o, e, hc⟩ := h i hi
  exact ⟨b, o, e, by rw [ho.cell (p := ⟨b, o + i, none⟩) (World.block_lt_of_cell? _ _ hc) (hbc b o e)]; exact hc⟩
theorem Row.set {w : World} {b n : Nat} {f : Nat → Int} (h : Row w b n f) {j : Nat} (hj : j < n) (v : Int) : Row (w.setCell ⟨b, j, none⟩ (.int .i64 v)) b n (upd f j v) := by
  intro i hi
  refine ⟨?_, by rw [World.frozen?_setCell]; exact (h i hi).2⟩
  unfold upd
  by_cases e : i = j
  · subst e; rw [if_pos rfl]; exact World.cell?_setCell_same _ _ _ (h i hi).1
  · rw [if_neg e, World.cell?_setCell_other]
    · exact (h i hi).1
    · exact fun h => e (congrArg Addr.off h).symm
theorem Row.congr {w : World} {b n : Nat} {f g : Nat → Int} (h : Row w b n f) (e : ∀ i, i < n → f i = g i) : Row w b n g := fun i hi => by rw [← e i hi]; exact h i hi
theorem IntsAt.congr {w : World} {A : Option Addr} {n : Nat} {f g : Nat → Int} (h : IntsAt w A n f) (e : ∀ i, i < n → f i = g i) : IntsAt w A n g := fun i hi => by rw [← e i hi]; exact h i hi
theorem Row.ints {w : World} {b n : Nat} {f : Nat → Int} (h : Row w b n f) : IntsAt w (some ⟨b, 0, none⟩) n f := fun i hi => ⟨b, 0, rfl, by rw [Nat.zero_add]; exact (h i hi).1⟩

/-- What becomes of the product in a round. -/
inductive Rad (f : Nat → Int) (k : Nat) (m v : Int) : Prop
  | small (h : v < 2) (e : prodTo f (k + 1) = none) : Rad f k m v
  | great (h1 : 2 ≤ v) (h2 : 1048576 / m < v) (h3 : 1048576 < m * v) (h4 : v ≤ 1048576 → m * v ≤ 1099511627776) (e : prodTo f (k + 1) = none) : Rad f k m v
  | fits (h1 : 2 ≤ v) (h2 : v ≤ 1048576 / m) (h3 : 1 ≤ m * v) (h4 : m * v ≤ 1048576) (h5 : v ≤ 1048576) (e : prodTo f (k + 1) = some (m * v)) : Rad f k m v

theorem rad_of {f : Nat → Int} {k : Nat} {m v : Int} (h : prodTo f k = some m) (h1 : 1 ≤ m) (h2 : m ≤ 1048576) (hv : f k = v) : Rad f k m v := by
  by_cases a : v < 2
  · exact .small a (prodTo_stop h (by omega))
  · have e := Int.ediv_lt_iff_lt_mul (a := 1048576) (b := v) (c := m) (by omega)
    rw [Int.mul_comm v m] at e
    by_cases b : 1048576 < m * v
    · refine .great (by omega) (e.2 b) b (fun hv2 => ?_) (prodTo_stop h (by rw [hv]; omega))
      have := Int.mul_le_mul h2 hv2 (by omega) (by omega)
      omega
    · have b1 : 1 * v ≤ m * v := Int.mul_le_mul_of_nonneg_right h1 (by omega)
      refine .fits (by omega) (by have := mt e.1 b; omega) (by omega) (by omega) (by omega) ?_
      rw [prodTo_step h (by omega) (by rw [hv]; omega), hv]

set_option maxRecDepth 100000 in
theorem product_any (A : Option Addr) (n c : Nat) (f : Nat → Int) (w : World) (hA : IntsAt w A n f) (hn : n ≤ 9223372036854775807) (r e : Int) (h : (prodO f n = none ∧ r = 0 ∧ e = 2) ∨ (prodO f n = some r ∧ e = 0)) :
    Calls Try.prog 26 #[.slice A n c] w fun z w' => z = .returned (.tuple #[.int .i64 r, .int .i64 e]) ∧ w = w' := by
  have H := Lib.hid h
  clear h
  by_cases h30 : 30 < n
  · have h0 : prodO f n = none := by unfold prodO; rw [if_pos h30]
    obtain ⟨rfl, rfl⟩ : r = 0 ∧ e = 2 := by
      rcases H.out with ⟨_, h⟩ | ⟨h, _⟩
      · exact h
      · rw [h0] at h; cases h
    clear h0
    go_enter Try.func26, Try.ntmps26
    go_wp2
    go_ret2
    exact ⟨rfl, rfl⟩
  · have HA := Lib.hid hA
    have HN : Hid (∀ k, k ≤ n → prodTo f k = none → r = 0 ∧ e = 2) := Lib.hid (by
      intro k hk h
      have h0 : prodO f n = none := by unfold prodO; rw [if_neg h30]; exact prodTo_none_le h hk
      rcases H.out with ⟨_, h⟩ | ⟨h, _⟩
      · exact h
      · rw [h0] at h; cases h)
    have HY : Hid (∀ m, prodTo f n = some m → r = m ∧ e = 0) := Lib.hid (by
      intro m h
      have h0 : prodO f n = some m := by unfold prodO; rw [if_neg h30]; exact h
      rcases H.out with ⟨h, _⟩ | ⟨h, h1⟩
      · rw [h0] at h; cases h
      · rw [h0] at h; cases h; exact ⟨rfl, h1⟩)
    clear hA H
    go_enter Try.func26, Try.ntmps26
    go_wp2
    go_loop [4, 6, 12] (fun a r i => ∃ (k : Nat) (m : Int), k ≤ n ∧ 1 ≤ m ∧ m ≤ 1048576 ∧ i = .int .i64 k ∧ a = .int .i64 m ∧ Hid (prodTo f k = some m)) (fun _ _ i => n - (intOf i).toNat)
    case atStart => exact ⟨0, 1, by omega, by omega, by omega, rfl, rfl, Lib.hid rfl⟩
    case round =>
      obtain ⟨k, m, hk, hm1, hm2, rfl, rfl, hp⟩ := hrel
      by_cases hlt : k < n
      · obtain ⟨b, o, rfl, hc⟩ := HA.out k hlt
        obtain ⟨v, hv⟩ : ∃ v, f k = v := ⟨_, rfl⟩
        have hr := rad_of hp.out hm1 hm2 hv
        rw [hv] at hc
        clear hv
        rcases hr with ⟨h1, h2⟩ | ⟨h1, h2, h3, h4, h5⟩ | ⟨h1, h2, h3, h4, h5, h6⟩
        · obtain ⟨rfl, rfl⟩ := HN.out _ hlt h2
          clear h2
          go_wp2
          go_ret2
          exact ⟨rfl, rfl⟩
        · obtain ⟨rfl, rfl⟩ := HN.out _ hlt h5
          clear h5 h4
          go_wp2
          go_ret2
          exact ⟨rfl, rfl⟩
        · have H6 := Lib.hid h6
          clear h6
          go_wp2
          go_round
          case rel => exact ⟨k + 1, m * v, by omega, by omega, by omega, by go_num, rfl, H6⟩
          case measure => simp [intOf]; omega
      · obtain rfl : k = n := by omega
        obtain ⟨rfl, rfl⟩ := HY.out _ hp.out
        go_wp2
        go_ret2
        exact ⟨rfl, rfl⟩
end Go.Proofs.Ytkjnlgbpfpkjhaa
