/- The document's Cycles. -/
import Derived.Test.YtkjnlgbpfpkjhaaB14
import Derived.Deep.LoopGhost
set_option linter.unusedSimpArgs false
set_option linter.unusedVariables false
namespace Go.Proofs.Ytkjnlgbpfpkjhaa
open Go.RowKit

set_option maxRecDepth 100000 in
set_option maxHeartbeats 1000000 in
theorem rCycles_bad (A : Option Addr) (n c : Nat) (p : Nat → Int) (w : World) (hA : IntsAt w A n p) (hn : n ≤ 1000000000) (hbad : ¬ Perm p n) :
    Calls Try.prog 16 #[.slice A n c] w fun z w' => z = .returned (.tuple #[.slice none 0 0, .int .i64 2]) ∧ Below w.heap.size w w' := by
  have HA := Lib.hid hA
  have HBAD := Lib.hid hbad
  have hmk := mk62 n (by omega)
  clear hA hbad
  go_enter Try.func16, Try.ntmps16
  go_wp2
  go_loopw [5] (fun i wr => ∃ k : Nat, k ≤ n ∧ i = .int .i64 k ∧ Hid (PermTo p n k) ∧ Hid (RowB wr w.heap.size n (seen p k)) ∧ Hid (Below w.heap.size w wr)) (fun i _ => n - (intOf i).toNat)
  case atStart => exact ⟨0, by omega, rfl, Lib.hid (fun i hi => by omega), Lib.hid (zb_row n w), Lib.hid ((Below.refl _ w).alloc (Nat.le_refl _) _)⟩
  case round =>
    obtain ⟨k, hk, rfl, hp, hr, hb⟩ := hrel
    by_cases hlt : k < n
    · obtain ⟨b, o, rfl, hc⟩ := HA.out.keep hb.out k hlt
      have hki : (k : Int) < n := by omega
      have HS : Hid (0 ≤ p k → p k < n → seen p k (p k).toNat = false → PermTo p n (k + 1)) := Lib.hid hp.out.succ
      have HR2 : Hid (∀ v : Nat, p k = v → v < n → RowB (wr.setCell ⟨w.heap.size, v, none⟩ (.bool true)) w.heap.size n (seen p (k + 1))) := Lib.hid (fun v hv hl => (hr.out.set hl true).congr fun i hi => by
        unfold updB
        have e : seen p (k + 1) i = if i = (p k).toNat then true else seen p k i := rfl
        rw [e, hv, Int.toNat_natCast])
      obtain ⟨u, hu⟩ : ∃ u, p k = u := ⟨_, rfl⟩
      rw [hu] at hc HS HR2
      clear hu
      by_cases h0 : u < 0
      · clear HS HR2
        go_wp2
        go_ret2
        exact ⟨rfl, hb.out⟩
      · by_cases h1 : (n : Int) ≤ u
        · clear HS HR2
          go_wp2
          go_ret2
          exact ⟨rfl, hb.out⟩
        · obtain ⟨v, rfl⟩ := Int.eq_ofNat_of_zero_le (show 0 ≤ u by omega)
          have hv : v < n := by omega
          obtain ⟨r1, r2⟩ := hr.out v hv
          rw [Int.toNat_natCast] at HS
          rcases hs : seen p k v with _ | _
          · have HP2 := Lib.hid (HS.out (by omega) (by omega) hs)
            have HR3 := Lib.hid (HR2.out v rfl hv)
            have HB3 := Lib.hid (hb.out.setCell (p := ⟨w.heap.size, v, none⟩) (Nat.le_refl _) (.bool true))
            rw [hs] at r1
            clear HS HR2 hs h0 h1
            go_wp2
            go_roundw
            case rel => exact ⟨k + 1, by omega, by go_num, HP2, HR3, HB3⟩
            case measure => simp [intOf]; omega
          · rw [hs] at r1
            clear HS HR2 hs h0 h1
            go_wp2
            go_ret2
            exact ⟨rfl, hb.out⟩
    · obtain rfl : k = n := by omega
      exact absurd hp.out.all HBAD.out

/-- A box of a circle. -/
def Box1 (w : World) (b : Nat) (v : Value) : Prop := w.heap[b]? = some (.cells #[v] 39 (0, 0))
theorem Box1.cell {w : World} {b : Nat} {v : Value} (h : Box1 w b v) : w.cell? ⟨b, 0, none⟩ = some v := by
  have := cell_of_row w b 0 #[v] 39 (0, 0) h
  simpa using this
theorem Box1.frozen {w : World} {b : Nat} {v : Value} (h : Box1 w b v) : w.frozen? ⟨b, 0, none⟩ = false := by
  have h' : w.heap[b]? = some (.cells #[v] 39 (0, 0)) := h
  simp [World.frozen?, h']
theorem Box1.lt {w : World} {b : Nat} {v : Value} (h : Box1 w b v) : b < w.heap.size := World.block_lt_of_cell? w ⟨b, 0, none⟩ h.cell
theorem Box1.alloc {w : World} {b : Nat} {v : Value} (h : Box1 w b v) (o : Obj) : Box1 (w.alloc o) b v := (Below.heap_alloc w o b h.lt).trans h
theorem Box1.grown {w w' : World} {b : Nat} {v : Value} {row : Option Nat} (h : Box1 w b v) (hg : w.grownBy w' row) (hr : some b ≠ row) : Box1 w' b v := (hg.block b h.lt hr).trans h
theorem Box1.set {w : World} {b : Nat} {v : Value} (h : Box1 w b v) (u : Value) : Box1 (w.setCell ⟨b, 0, none⟩ u) b u := by
  have h' : w.heap[b]? = some (.cells #[v] 39 (0, 0)) := h
  unfold Box1
  simp [World.setCell, Array.getElem?_modify, h']
theorem Box1.new (w : World) (v : Value) : Box1 (w.alloc (.cells #[v] 39)) w.heap.size v := heap_alloc_new w _
theorem Own.box {w : World} {base n b : Nat} {v u : Value} {g : Nat → Int} (h : Own w base u n g) (k : Box1 w b v) : u.ownBlock = none ∨ u.ownBlock ≠ some b := by
  have h0 : w.ownsRow base 3 1 u n (ownL g n) := h
  have k0 : w.heap[b]? = some (.cells #[v] 39 (0, 0)) := k
  rcases h0.2 with ⟨rfl, _⟩ | ⟨b', cap', cur', rfl, _, h2', _⟩
  · exact .inl rfl
  · right
    simp only [Value.ownBlock, ne_eq, Option.some.injEq]
    rintro rfl
    rw [k0] at h2'
    cases h2'
theorem OwnS.below {e : TypeId} {w w' : World} {base m : Nat} {v : Value} {vs : List Value} (h : OwnS e w base v m vs) (hb : Below w.heap.size w w') : OwnS e w' base v m vs :=
  h.kept (row := none) ⟨hb.os, hb.tape, hb.output, hb.size, fun i hi _ => hb.block i hi⟩ (by cases v.ownBlock <;> simp)
theorem Box1.app {w w' : World} {base n b : Nat} {v u : Value} {g : Nat → Int} {o : Obj} (k : Box1 w b v) (h : Own w base u n g) (h2 : (w.alloc o).grownBy w' u.ownBlock) : Box1 w' b v :=
  (k.alloc o).grown h2 (fun e => by
    rcases h.box k with e2 | e2
    · rw [e2] at e; exact absurd e (by simp)
    · exact e2 e.symm)
theorem Below.app {base n W : Nat} {w0 w w' : World} {u : Value} {g : Nat → Int} {o : Obj} (hb : Below W w0 w) (h : Own w base u n g) (h2 : (w.alloc o).grownBy w' u.ownBlock) (hw : W ≤ base) (h0 : W ≤ w0.heap.size) : Below W w0 w' :=
  (hb.alloc (by have := hb.size; omega) o).grown h2 (by have := hb.size; simp; omega) (fun k e => by have := h.base k e; omega)
theorem Own.one (w : World) (base : Nat) (x : Int) (hb : base ≤ w.heap.size) (g : Nat → Int) (hg : g 0 = x) : Own (w.alloc (.cells #[.int .i64 x] 3)) base (.slice (some ⟨w.heap.size, 0, none⟩) 1 1) 1 g := by
  refine ⟨by simp [ownL_length], .inr ⟨w.heap.size, 1, #[.int .i64 x], rfl, hb, heap_alloc_new w _, Nat.le_refl _, by unfold maxLen; omega, rfl, ?_⟩⟩
  simp [ownL, ← hg]

theorem info39 : ∃ z, (Try.prog.info? 39).map (fun i => (i.zero, i.size, i.bytes)) = some (some z, 1, 24) ∧ z.cells.size = 1 := ⟨.agg #[.slice none 0 0], by kernel_rfl, rfl⟩

theorem lst_of_all {p : Nat → Int} {x L : Nat} (c : Cyc p x L) (h : ∀ i, i < L → x ≤ it p x i) : lst p x = true :=
  (keeps_iff _ _ _).2 fun j => by
    obtain ⟨i, hi, e⟩ := cyc_mod c j
    rw [e]; exact h i hi
theorem lst_not {p : Nat → Int} {x i : Nat} (h : it p x i < x) : lst p x = false := by
  rw [Bool.eq_false_iff]
  intro hl
  have := (keeps_iff _ _ _).1 hl i
  omega
end Go.Proofs.Ytkjnlgbpfpkjhaa
