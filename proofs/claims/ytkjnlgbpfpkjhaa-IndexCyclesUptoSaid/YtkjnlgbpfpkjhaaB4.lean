/- slices.Backward's contract; the contract of number. -/
import Derived.Test.YtkjnlgbpfpkjhaaB3
import Derived.RangeFuncBox
import Derived.RangeFuncLeaves
import Derived.RangeFuncNested
import Derived.Shelf.Abstract
import Derived.OwnWalkIn
import Derived.TacticsInMore
import Derived.LoopNIn
import Derived.LoopIn
set_option linter.unusedSimpArgs false
set_option linter.unusedVariables false
namespace Go.Proofs.Ytkjnlgbpfpkjhaa
open Go.RowKit Go.Shelf

attribute [local go_sem] Oper.semAt_some

/-- The first k rounds' numbers. -/
def Ups {n : Nat} (pre : List (Fin n)) (k : Nat) : Prop := pre.map Fin.val = List.range k
theorem Ups.nil {n : Nat} : Ups ([] : List (Fin n)) 0 := rfl
theorem Ups.snoc {n k : Nat} {pre : List (Fin n)} (h : Ups pre k) (hk : k < n) : Ups (pre ++ [⟨k, hk⟩]) (k + 1) := by
  unfold Ups at *
  rw [List.map_append, h, List.range_succ]
  rfl
theorem Ups.len {n k : Nat} {pre : List (Fin n)} (h : Ups pre k) : pre.length = k := by
  have := congrArg List.length h
  simpa using this

/-- Of the blocks below B block b alone may have turned. -/
structure Kept (b B : Nat) (w w' : World) : Prop where
  os : w'.os = w.os
  tape : w'.tape = w.tape
  output : w'.output = w.output
  size : w.heap.size ≤ w'.heap.size
  block : ∀ k, k < B → k ≠ b → w'.heap[k]? = w.heap[k]?
theorem Kept.refl (b B : Nat) (w : World) : Kept b B w w := ⟨rfl, rfl, rfl, Nat.le_refl _, fun _ _ _ => rfl⟩
theorem Kept.trans {b B : Nat} {x y z : World} (h : Kept b B x y) (k : Kept b B y z) : Kept b B x z :=
  ⟨k.os.trans h.os, k.tape.trans h.tape, k.output.trans h.output, Nat.le_trans h.size k.size, fun i hi hb => (k.block i hi hb).trans (h.block i hi hb)⟩
theorem Kept.drew {b B : Nat} {x y : World} (h : Kept b B x y) : Kept b B x y.drew := ⟨h.os, h.tape, h.output, h.size, h.block⟩
theorem Kept.set {b B : Nat} {x y : World} (h : Kept b B x y) (o : Nat) (s : Option Nat) (v : Value) : Kept b B x (y.setCell ⟨b, o, s⟩ v) :=
  h.trans ⟨rfl, rfl, rfl, by simp [World.setCell], fun k _ hk => Below.heap_setCell _ _ _ _ hk⟩
theorem Kept.cell {b B : Nat} {x y : World} (h : Kept b B x y) {p : Addr} (hl : p.block < B) (hp : p.block ≠ b) : y.cell? p = x.cell? p := World.cell?_of_block (w := x) (h.block p.block hl hp)
theorem Kept.put {b B : Nat} (W : World) (l : Nat) (o o' : Obj) (hl : B ≤ l) (h : W.heap[l]? = some o) : Kept b B W (W.putObj l o') := by
  have g := grownBy_putObj' W l o'
  have hs := (Array.getElem?_eq_some_iff.1 h).1
  exact ⟨g.os, g.tape, g.output, g.size, fun k hk _ => g.block k (by omega) (fun e => by cases e; omega)⟩
theorem Kept.below {b B c : Nat} {x y : World} (h : Kept b B x y) (h1 : c ≤ b) (h2 : c ≤ B) : Below c x y := ⟨h.os, h.tape, h.output, h.size, fun k hk => h.block k (by omega) (by omega)⟩

/-- What a round is handed. -/
def bw (f : Nat → Int) (n : Nat) (j : Fin n) : Array Value := #[.int .i64 ((n - 1 - j.val : Nat) : Int), .int .i64 (f (n - 1 - j.val))]

set_option maxRecDepth 100000 in
set_option maxHeartbeats 2000000 in
theorem back_in (F : Fence) (m : Nat) (h34 : F.fn 34) (hro : F.round = none) (hm : 1 ≤ m) (l Bs b0 n₀ n cap : Nat) (A : Option Addr) (f : Nat → Int) (hn : n ≤ 17592186044416) (hb : 0 < n → ∀ b o, A = some ⟨b, o, none⟩ → b < n₀ ∧ b ≠ b0) (J Jx : List (Fin n) → World → Prop)
    (hY : ∀ pre x W, J pre W → pre.length < n → YieldAt F (m - 1) Try.prog l (bw f n x) W fun e W' =>
      (e = .returned (.bool true) ∧ J (pre ++ [x]) W' ∧ Kept b0 n₀ W W') ∨ (e = .returned (.bool false) ∧ Jx (pre ++ [x]) W'))
    (W : World) (hBs : W.cell? ⟨Bs, 0, none⟩ = some (.slice A n cap)) (hBn : Bs < n₀ ∧ Bs ≠ b0) (hc : IntsAt W A n f) (h0 : J [] W) :
    CallsIn F m Try.prog 34 #[.func (.yield l) #[] #[], .pointer (some ⟨Bs, 0, none⟩)] W fun e W' => (∃ v, e = .returned v) ∧
      ((∃ ys, Ups ys n ∧ J ys W') ∨ (∃ pre, (∃ k, k ≤ n ∧ Ups pre k) ∧ Jx pre W')) := by
  refine callsIn_of_wp Try.func34 rfl h34 ?_ hro
  simp only [Try.ntmps34, List.size_toArray, List.length_cons, List.length_nil, Nat.reduceAdd, Nat.reduceSub, Array.replicate_succ, Array.replicate_zero, List.push_toArray, List.append_toArray, List.nil_append, List.cons_append]
  have HC := Lib.hid hc
  have HB := Lib.hid hb
  clear hc hb
  gi_wp2
  gi_loopw [3] (fun i wr => ∃ (k : Nat) (pre : List (Fin n)), k ≤ n ∧ i = .int .i64 ((n : Int) - 1 - k) ∧ Ups pre k ∧ J pre wr ∧ Hid (Kept b0 n₀ W wr))
    (fun i _ => (intOf i + 1).toNat)
  case atStart => exact ⟨0, [], Nat.zero_le _, by simp, Ups.nil, h0, Lib.hid (Kept.refl _ _ _)⟩
  case round =>
    obtain ⟨k, pre, hk, rfl, hup, hJs, hnx⟩ := hrel
    have hbs : wr.cell? ⟨Bs, 0, none⟩ = some (.slice A n cap) := (hnx.out.cell (p := ⟨Bs, 0, none⟩) hBn.1 hBn.2).trans hBs
    by_cases hlt : k < n
    · obtain ⟨j, hj⟩ : ∃ j : Nat, j = n - 1 - k := ⟨_, rfl⟩
      have ej : (n : Int) - 1 - k = j := by omega
      have hjn : j < n := by omega
      obtain ⟨b, o, rfl, hc0⟩ := HC.out j hjn
      have hcx : wr.cell? ⟨b, o + j, none⟩ = some (.int .i64 (f j)) := (hnx.out.cell (p := ⟨b, o + j, none⟩) (HB.out (by omega) b o rfl).1 (HB.out (by omega) b o rfl).2).trans hc0
      obtain ⟨fn, tmps, assign, body, hy, hR⟩ := hY pre ⟨k, hlt⟩ wr hJs (by rw [hup.len]; exact hlt)
      unfold bw at hy
      dsimp only at hy
      rw [← hj] at hy
      have EJ := Lib.hid ej
      rw [ej]
      clear ej hj hc0 hbs
      have hbs : wr.cell? ⟨Bs, 0, none⟩ = some (.slice (some ⟨b, o, none⟩) n cap) := (hnx.out.cell (p := ⟨Bs, 0, none⟩) hBn.1 hBn.2).trans hBs
      gi_wp2
      refine hR.mono ?_
      rintro e W3 (⟨rfl, hJ3, hk3⟩ | ⟨rfl, hJx3⟩)
      · -- the round goes on
        have HK3 := Lib.hid (hnx.out.trans hk3)
        clear hk3 hcx hbs
        gi_wp2
        go_roundw
        case rel => exact ⟨k + 1, pre ++ [⟨k, hlt⟩], by omega, by have := EJ.out; rw [show ((j : Int) - 1) = (n : Int) - 1 - ((k + 1 : Nat) : Int) from by omega], hup.snoc hlt, hJ3, HK3⟩
        case measure => have := EJ.out; simp [intOf]
      · gi_wp2
        refine bodyPost_ret (results_none rfl _ _ _) rfl ?_
        exact ⟨⟨_, rfl⟩, .inr ⟨_, ⟨k + 1, by omega, hup.snoc hlt⟩, hJx3⟩⟩
    · obtain rfl : k = n := by omega
      rw [show ((k : Int) - 1 - k) = -1 from by omega]
      gi_wp2
      go_end0
      exact ⟨⟨_, rfl⟩, .inl ⟨pre, hup, hJs⟩⟩

set_option maxHeartbeats 1000000 in
theorem backward_in (F : Fence) (m : Nat) (h33 : F.fn 33) (hro : F.round = none) (a : Option Addr) (len cap : Nat) (w : World) :
    CallsIn F m Try.prog 33 #[.slice a len cap] w fun e w' => e = .returned (.func (.func 34) #[] #[.pointer (some ⟨w.heap.size, 0, none⟩)]) ∧ w' = w.alloc (.cells #[.slice a len cap] 22) := by
  refine callsIn_of_wp Try.func33 rfl h33 ?_ hro
  simp only [Try.ntmps33, List.size_toArray, List.length_cons, List.length_nil, Nat.reduceAdd, Nat.reduceSub, Array.replicate_succ, Array.replicate_zero, List.push_toArray, List.append_toArray, List.nil_append, List.cons_append]
  gi_wp2
  go_ret
  exact ⟨rfl, rfl⟩

theorem IntsAt.block {w : World} {A : Option Addr} {n : Nat} {f : Nat → Int} (h : IntsAt w A n f) (hn : 0 < n) : ∀ b o, A = some ⟨b, o, none⟩ → b < w.heap.size := fun b o e => by
  obtain ⟨b', o', e', hc⟩ := h 0 hn
  rw [e'] at e
  cases e
  exact World.block_lt_of_cell? _ _ hc

theorem back_stops (F : Fence) (m : Nat) (h34 : F.fn 34) (hro : F.round = none) (hm : 1 ≤ m) (Bs b0 n₀ n cap : Nat) (A : Option Addr) (f : Nat → Int) (hn : n ≤ 17592186044416) (w : World) (hBs : Bs < n₀ ∧ Bs ≠ b0) (hn₀ : n₀ ≤ w.heap.size)
    (hc : w.cell? ⟨Bs, 0, none⟩ = some (.slice A n cap)) (hb : 0 < n → ∀ b o, A = some ⟨b, o, none⟩ → b < n₀ ∧ b ≠ b0) (hI : IntsAt w A n f) :
    SeqStopsK F m Try.prog 34 #[.pointer (some ⟨Bs, 0, none⟩)] (bw f n) (Kept b0 n₀) (fun ys => Ups ys n) (fun pre => ∃ k, k ≤ n ∧ Ups pre k) n w := fun l J Jx W hW _ _ hY h0 => by
  have hc' := (hW.cell (p := ⟨Bs, 0, none⟩) (Nat.lt_of_lt_of_le hBs.1 hn₀)).trans hc
  refine back_in F m h34 hro hm l Bs b0 n₀ n cap A f hn hb J Jx hY W hc' hBs ?_ h0
  intro i hi
  obtain ⟨b, o, e, h⟩ := hI i hi
  exact ⟨b, o, e, (hW.cell (p := ⟨b, o + i, none⟩) (Nat.lt_of_lt_of_le (hb (by omega) b o e).1 hn₀)).trans h⟩
end Go.Proofs.Ytkjnlgbpfpkjhaa
