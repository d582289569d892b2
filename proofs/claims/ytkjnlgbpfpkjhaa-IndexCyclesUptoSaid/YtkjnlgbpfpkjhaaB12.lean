/- Rows of bools; rows of slices; Cycles at a list that is no permutation. -/
import Derived.Test.YtkjnlgbpfpkjhaaP3
import Derived.Test.YtkjnlgbpfpkjhaaB3
set_option linter.unusedSimpArgs false
set_option linter.unusedVariables false
namespace Go.Proofs.Ytkjnlgbpfpkjhaa
open Go.RowKit

/-- A row of bools in block b, from its start on, that may be written. -/
def RowB (w : World) (b n : Nat) (f : Nat → Bool) : Prop := ∀ i, i < n → w.cell? ⟨b, i, none⟩ = some (.bool (f i)) ∧ w.frozen? ⟨b, i, none⟩ = false

def updB (f : Nat → Bool) (j : Nat) (v : Bool) : Nat → Bool := fun i => if i = j then v else f i

theorem RowB.keep {W w1 : World} {b n : Nat} {f : Nat → Bool} (hb : Below W.heap.size W w1) (h : RowB W b n f) : RowB w1 b n f := fun i hi =>
  ⟨keep_cell hb (h i hi).1, keep_free hb (World.block_lt_of_cell? _ _ (h i hi).1) (h i hi).2⟩
theorem RowB.alloc {w : World} {b n : Nat} {f : Nat → Bool} (h : RowB w b n f) (o : Obj) : RowB (w.alloc o) b n f := h.keep ((Below.refl _ w).alloc (Nat.le_refl _) o)
theorem RowB.grown {W w1 : World} {b n : Nat} {row : Option Nat} {f : Nat → Bool} (hg : W.grownBy w1 row) (hr : some b ≠ row) (h : RowB W b n f) : RowB w1 b n f := fun i hi => by
  have hl : b < W.heap.size := World.block_lt_of_cell? _ _ (h i hi).1
  exact ⟨by rw [World.cell?_of_block (w := W) (hg.block b hl hr)]; exact (h i hi).1, by rw [World.frozen?_of_block (w := W) (hg.block b hl hr)]; exact (h i hi).2⟩
theorem RowB.set {w : World} {b n : Nat} {f : Nat → Bool} (h : RowB w b n f) {j : Nat} (hj : j < n) (v : Bool) : RowB (w.setCell ⟨b, j, none⟩ (.bool v)) b n (updB f j v) := by
  intro i hi
  refine ⟨?_, by rw [World.frozen?_setCell]; exact (h i hi).2⟩
  unfold updB
  by_cases e : i = j
  · subst e; rw [if_pos rfl]; exact World.cell?_setCell_same _ _ _ (h i hi).1
  · rw [if_neg e, World.cell?_setCell_other]
    · exact (h i hi).1
    · exact fun h => e (congrArg Addr.off h).symm
theorem RowB.congr {w : World} {b n : Nat} {f g : Nat → Bool} (h : RowB w b n f) (e : ∀ i, i < n → f i = g i) : RowB w b n g := fun i hi => by rw [← e i hi]; exact h i hi

/-- n times false. -/
def zb (n : Nat) : Array Value := madeCells #[.bool false] n
theorem info4 : (Try.prog.info? 4).map (fun i => (i.zero, i.size, i.bytes)) = some (some (.bool false), 1, 1) := by kernel_rfl
theorem mk62 (n : Nat) (hn : n ≤ 17592186044416) (w : World) : (Instr.makeSlice 62 (.int .i64 n) (.int .i64 n)).run Try.prog w = .ok (.slice (some ⟨w.heap.size, 0, none⟩) n n) (w.alloc (.cells (zb n) 4)) := by
  obtain ⟨i0, hi, hz0, hz1, hz2⟩ := info_parts info4
  have h := run_make (P := Try.prog) w 62 4 i0 _ Try.underlying62 hi hz0 .i64 .i64 n n (by omega) (by omega) (by rw [hz2]; omega) (by omega)
  rw [hz1] at h
  simpa [zb, Value.cells] using h
theorem zb_row (n : Nat) (w : World) : RowB (w.alloc (.cells (zb n) 4)) w.heap.size n (fun _ => false) := by
  intro i hi
  refine ⟨?_, World.frozen?_alloc_new _ _ _ _⟩
  rw [World.cell?_alloc_new, zb]
  simp [madeCells, hi, Nat.mod_one]

/-- Is a place among the first k? -/
def seen (p : Nat → Int) : Nat → Nat → Bool
  | 0 => fun _ => false
  | k + 1 => fun y => if y = (p k).toNat then true else seen p k y

theorem seen_true {p : Nat → Int} : ∀ {k y : Nat}, seen p k y = true → ∃ i, i < k ∧ (p i).toNat = y
  | 0, _, h => by cases h
  | k + 1, y, h => by
    unfold seen at h
    by_cases e : y = (p k).toNat
    · exact ⟨k, by omega, e.symm⟩
    · rw [if_neg e] at h
      obtain ⟨i, hi, e2⟩ := seen_true h
      exact ⟨i, by omega, e2⟩
theorem seen_of {p : Nat → Int} : ∀ {k i : Nat}, i < k → seen p k (p i).toNat = true
  | k + 1, i, h => by
    unfold seen
    by_cases e : (p i).toNat = (p k).toNat
    · rw [if_pos e]
    · rw [if_neg e]
      by_cases e2 : i = k
      · subst e2; exact absurd rfl e
      · exact seen_of (by omega)

/-- The first k places are such. -/
def PermTo (p : Nat → Int) (n k : Nat) : Prop := ∀ i, i < k → 0 ≤ p i ∧ p i < n ∧ ∀ j, j < i → p j ≠ p i
theorem PermTo.all {p : Nat → Int} {n : Nat} (h : PermTo p n n) : Perm p n :=
  ⟨fun i hi => (h i hi).1, fun i hi => (h i hi).2.1, fun i j hi hj e => by
    rcases Nat.lt_trichotomy i j with a | a | a
    · exact absurd e ((h j hj).2.2 i a)
    · exact a
    · exact absurd e.symm ((h i hi).2.2 j a)⟩
theorem PermTo.succ {p : Nat → Int} {n k : Nat} (h : PermTo p n k) (h1 : 0 ≤ p k) (h2 : p k < n) (h3 : seen p k (p k).toNat = false) : PermTo p n (k + 1) := fun i hi => by
  by_cases e : i = k
  · subst e
    refine ⟨h1, h2, fun j hj e => ?_⟩
    have := seen_of (p := p) hj
    rw [e, h3] at this
    cases this
  · exact h i (by omega)

theorem OnlyB.grown {b : Nat} {x y : World} (h : OnlyB b x y) : x.grownBy y (some b) := ⟨h.os, h.tape, h.output, h.size, fun k hk e => h.block k hk (fun e2 => e (by rw [e2]))⟩

set_option maxRecDepth 100000 in
set_option maxHeartbeats 1000000 in
theorem Cycles_bad (A : Option Addr) (n c : Nat) (p : Nat → Int) (w : World) (hA : IntsAt w A n p) (hn : n ≤ 1000000000) (hbad : ¬ Perm p n) :
    Calls Try.prog 15 #[.slice A n c] w fun z w' => z = .returned (.tuple #[.slice none 0 0, .int .i64 2]) ∧ Below w.heap.size w w' := by
  have HA := Lib.hid hA
  have HBAD := Lib.hid hbad
  have hmk := mk62 n (by omega)
  clear hA hbad
  go_enter Try.func15, Try.ntmps15
  go_wp2
  go_loopw [6, 16] (fun r i wr => ∃ k : Nat, k ≤ n ∧ i = .int .i64 k ∧ Hid (PermTo p n k) ∧ Hid (RowB wr w.heap.size n (seen p k)) ∧ Hid (Below w.heap.size w wr)) (fun _ i _ => n - (intOf i).toNat)
  case atStart => exact ⟨0, by omega, rfl, Lib.hid (fun i hi => by omega), Lib.hid (zb_row n w), Lib.hid ((Below.refl _ w).alloc (Nat.le_refl _) _)⟩
  case round =>
    obtain ⟨k, hk, rfl, hp, hr, hb⟩ := hrel
    by_cases hlt : k < n
    · obtain ⟨b, o, rfl, hc⟩ := HA.out.keep hb.out k hlt
      have HS : Hid (0 ≤ p k → p k < n → seen p k (p k).toNat = false → PermTo p n (k + 1)) := Lib.hid hp.out.succ
      have HR2 : Hid (∀ v : Nat, p k = v → v < n → RowB (wr.setCell ⟨w.heap.size, v, none⟩ (.bool true)) w.heap.size n (seen p (k + 1))) := Lib.hid (fun v hv hl => (hr.out.set hl true).congr fun i hi => by
        unfold updB
        have e : seen p (k + 1) i = if i = (p k).toNat then true else seen p k i := rfl
        rw [e, hv, Int.toNat_natCast])
      obtain ⟨u, hu⟩ : ∃ u, p k = u := ⟨_, rfl⟩
      rw [hu] at hc HS HR2
      clear hu
      by_cases h0 : u < 0
      · clear HS HR2
        go_wp2
        go_ret2
        exact ⟨rfl, hb.out⟩
      · by_cases h1 : (n : Int) ≤ u
        · clear HS HR2
          go_wp2
          go_ret2
          exact ⟨rfl, hb.out⟩
        · obtain ⟨v, rfl⟩ := Int.eq_ofNat_of_zero_le (show 0 ≤ u by omega)
          have hv : v < n := by omega
          obtain ⟨r1, r2⟩ := hr.out v hv
          rw [Int.toNat_natCast] at HS
          rcases hs : seen p k v with _ | _
          · have HP2 := Lib.hid (HS.out (by omega) (by omega) hs)
            have HR3 := Lib.hid (HR2.out v rfl hv)
            have HB3 := Lib.hid (hb.out.setCell (p := ⟨w.heap.size, v, none⟩) (Nat.le_refl _) (.bool true))
            rw [hs] at r1
            clear HS HR2 hs h0 h1
            go_wp2
            go_roundw
            case rel => exact ⟨k + 1, by omega, by go_num, HP2, HR3, HB3⟩
            case measure => simp [intOf]; omega
          · rw [hs] at r1
            clear HS HR2 hs h0 h1
            go_wp2
            go_ret2
            exact ⟨rfl, hb.out⟩
    · obtain rfl : k = n := by omega
      exact absurd hp.out.all HBAD.out
end Go.Proofs.Ytkjnlgbpfpkjhaa
