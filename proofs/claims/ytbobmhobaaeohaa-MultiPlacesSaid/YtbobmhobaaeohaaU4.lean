/- slices.Backward over plans: the iterator's contract. -/
import Derived.Test.YtbobmhobaaeohaaMC3
import Derived.RangeFuncBox
import Derived.RangeFuncLeaves
import Derived.RangeFuncNested
import Derived.Shelf.Abstract
import Derived.OwnWalkIn
import Derived.TacticsInMore
import Derived.LoopNIn
import Derived.LoopIn
set_option linter.unusedSimpArgs false
set_option linter.unusedVariables false
namespace Go.Proofs.Ytbobmhobaaeohaa
open Go.RowKit Go.Shelf

attribute [local go_sem] Oper.semAt_some

/-- The first k rounds' numbers. -/
def Ups {n : Nat} (pre : List (Fin n)) (k : Nat) : Prop := pre.map Fin.val = List.range k
theorem Ups.nil {n : Nat} : Ups ([] : List (Fin n)) 0 := rfl
theorem Ups.snoc {n k : Nat} {pre : List (Fin n)} (h : Ups pre k) (hk : k < n) : Ups (pre ++ [⟨k, hk⟩]) (k + 1) := by
  unfold Ups at *
  rw [List.map_append, h, List.range_succ]
  rfl
theorem Ups.len {n k : Nat} {pre : List (Fin n)} (h : Ups pre k) : pre.length = k := by
  have := congrArg List.length h
  simpa using this

/-- Of the blocks below B those of T alone may have turned. -/
structure KeptT (T : Nat → Prop) (B : Nat) (w w' : World) : Prop where
  os : w'.os = w.os
  tape : w'.tape = w.tape
  output : w'.output = w.output
  size : w.heap.size ≤ w'.heap.size
  block : ∀ k, k < B → ¬ T k → w'.heap[k]? = w.heap[k]?
theorem KeptT.refl (T : Nat → Prop) (B : Nat) (w : World) : KeptT T B w w := ⟨rfl, rfl, rfl, Nat.le_refl _, fun _ _ _ => rfl⟩
theorem KeptT.trans {T : Nat → Prop} {B : Nat} {x y z : World} (h : KeptT T B x y) (k : KeptT T B y z) : KeptT T B x z :=
  ⟨k.os.trans h.os, k.tape.trans h.tape, k.output.trans h.output, Nat.le_trans h.size k.size, fun i hi hb => (k.block i hi hb).trans (h.block i hi hb)⟩
theorem KeptT.cell {T : Nat → Prop} {B : Nat} {x y : World} (h : KeptT T B x y) {p : Addr} (hl : p.block < B) (hp : ¬ T p.block) : y.cell? p = x.cell? p := World.cell?_of_block (w := x) (h.block p.block hl hp)
theorem KeptT.frozen {T : Nat → Prop} {B : Nat} {x y : World} (h : KeptT T B x y) {p : Addr} (hl : p.block < B) (hp : ¬ T p.block) : y.frozen? p = x.frozen? p := World.frozen?_of_block (w := x) (h.block p.block hl hp)
theorem KeptT.put {T : Nat → Prop} {B : Nat} (W : World) (l : Nat) (o o' : Obj) (hl : B ≤ l) (h : W.heap[l]? = some o) : KeptT T B W (W.putObj l o') := by
  have g := grownBy_putObj' W l o'
  have hs := (Array.getElem?_eq_some_iff.1 h).1
  exact ⟨g.os, g.tape, g.output, g.size, fun k hk _ => g.block k (by omega) (fun e => by cases e; omega)⟩
theorem KeptT.of_below {T : Nat → Prop} {B : Nat} {x y : World} (h : Below x.heap.size x y) (hB : B ≤ x.heap.size) : KeptT T B x y := ⟨h.os, h.tape, h.output, h.size, fun k hk _ => h.block k (by omega)⟩
theorem KeptT.of_only {T : Nat → Prop} {B b : Nat} {x y : World} (h : OnlyB b x y) (hb : T b) (hB : B ≤ x.heap.size) : KeptT T B x y := ⟨h.os, h.tape, h.output, h.size, fun k hk hn => h.block k (by omega) (fun e => hn (e ▸ hb))⟩
theorem KeptT.below {T : Nat → Prop} {B c : Nat} {x y : World} (h : KeptT T B x y) (h1 : ∀ k, T k → c ≤ k) (h2 : c ≤ B) : Below c x y := ⟨h.os, h.tape, h.output, h.size, fun k hk => h.block k (by omega) (fun ht => by have := h1 k ht; omega)⟩

/-- A plan's cells. -/
structure PQ where
  kind : Int
  n : Int
  r : Int
  B : Option Addr
  l : Nat
  c : Nat
def PQ.v (p : PQ) : Value := plV p.kind p.n p.r p.B p.l p.c
/-- A row of plans. -/
def PlsAt (w : World) (A : Option Addr) (n : Nat) (p : Nat → PQ) : Prop := ∀ i, i < n → ∃ b o, A = some ⟨b, o, none⟩ ∧ w.cell? ⟨b, o + i * 4, none⟩ = some (.int .i64 (p i).kind) ∧ w.cell? ⟨b, o + i * 4 + 1, none⟩ = some (.int .i64 (p i).n) ∧ w.cell? ⟨b, o + i * 4 + 2, none⟩ = some (.int .i64 (p i).r) ∧ w.cell? ⟨b, o + i * 4 + 3, none⟩ = some (.slice (p i).B (p i).l (p i).c)
theorem PlsAt.of {w w1 : World} {A : Option Addr} {n : Nat} {p : Nat → PQ} (h : PlsAt w A n p) (H : ∀ b o, 0 < n → A = some ⟨b, o, none⟩ → ∀ i v, w.cell? ⟨b, i, none⟩ = some v → w1.cell? ⟨b, i, none⟩ = some v) : PlsAt w1 A n p := fun i hi => by
  obtain ⟨b, o, e, h1, h2, h3, h4⟩ := h i hi
  have := H b o (by omega) e
  exact ⟨b, o, e, this _ _ h1, this _ _ h2, this _ _ h3, this _ _ h4⟩

/-- What a round is handed. -/
def bw (f : Nat → PQ) (n : Nat) (j : Fin n) : Array Value := #[.int .i64 ((n - 1 - j.val : Nat) : Int), (f (n - 1 - j.val)).v]

set_option maxRecDepth 100000 in
set_option maxHeartbeats 2000000 in
theorem back_in (F : Fence) (m : Nat) (h34 : F.fn 21) (hro : F.round = none) (hm : 1 ≤ m) (l Bs : Nat) (T : Nat → Prop) (n₀ n cap : Nat) (A : Option Addr) (f : Nat → PQ) (hn : n ≤ 17592186044416) (hb : 0 < n → ∀ b o, A = some ⟨b, o, none⟩ → b < n₀ ∧ ¬ T b) (J Jx : List (Fin n) → World → Prop)
    (hY : ∀ pre x W, J pre W → pre.length < n → YieldAt F (m - 1) Try.prog l (bw f n x) W fun e W' =>
      (e = .returned (.bool true) ∧ J (pre ++ [x]) W' ∧ KeptT T n₀ W W') ∨ (e = .returned (.bool false) ∧ Jx (pre ++ [x]) W'))
    (W : World) (hBs : W.cell? ⟨Bs, 0, none⟩ = some (.slice A n cap)) (hBn : Bs < n₀ ∧ ¬ T Bs) (hc : PlsAt W A n f) (h0 : J [] W) :
    CallsIn F m Try.prog 21 #[.func (.yield l) #[] #[], .pointer (some ⟨Bs, 0, none⟩)] W fun e W' => (∃ v, e = .returned v) ∧
      ((∃ ys, Ups ys n ∧ J ys W') ∨ (∃ pre, (∃ k, k ≤ n ∧ Ups pre k) ∧ Jx pre W')) := by
  refine callsIn_of_wp Try.func21 rfl h34 ?_ hro
  simp only [Try.ntmps21, List.size_toArray, List.length_cons, List.length_nil, Nat.reduceAdd, Nat.reduceSub, Array.replicate_succ, Array.replicate_zero, List.push_toArray, List.append_toArray, List.nil_append, List.cons_append]
  have HC := Lib.hid hc
  have HB := Lib.hid hb
  clear hc hb
  gi_wp2
  gi_loopw [3] (fun i wr => ∃ (k : Nat) (pre : List (Fin n)), k ≤ n ∧ i = .int .i64 ((n : Int) - 1 - k) ∧ Ups pre k ∧ J pre wr ∧ Hid (KeptT T n₀ W wr))
    (fun i _ => (intOf i + 1).toNat)
  case atStart => exact ⟨0, [], Nat.zero_le _, by simp, Ups.nil, h0, Lib.hid (KeptT.refl _ _ _)⟩
  case round =>
    obtain ⟨k, pre, hk, rfl, hup, hJs, hnx⟩ := hrel
    have hbs : wr.cell? ⟨Bs, 0, none⟩ = some (.slice A n cap) := (hnx.out.cell (p := ⟨Bs, 0, none⟩) hBn.1 hBn.2).trans hBs
    by_cases hlt : k < n
    · obtain ⟨j, hj⟩ : ∃ j : Nat, j = n - 1 - k := ⟨_, rfl⟩
      have ej : (n : Int) - 1 - k = j := by omega
      have hjn : j < n := by omega
      obtain ⟨b, o, rfl, hc0, hc1, hc2, hc3⟩ := HC.out j hjn
      have hkp : ∀ i, wr.cell? ⟨b, i, none⟩ = W.cell? ⟨b, i, none⟩ := fun i => hnx.out.cell (p := ⟨b, i, none⟩) (HB.out (by omega) b o rfl).1 (HB.out (by omega) b o rfl).2
      have hx0 := (hkp _).trans hc0
      have hx1 := (hkp _).trans hc1
      have hx2 := (hkp _).trans hc2
      have hx3 := (hkp _).trans hc3
      obtain ⟨fn, tmps, assign, body, hy, hR⟩ := hY pre ⟨k, hlt⟩ wr hJs (by rw [hup.len]; exact hlt)
      unfold bw PQ.v at hy
      dsimp only at hy
      rw [← hj] at hy
      have EJ := Lib.hid ej
      rw [ej]
      clear ej hj hc0 hc1 hc2 hc3 hkp hbs
      have hbs : wr.cell? ⟨Bs, 0, none⟩ = some (.slice (some ⟨b, o, none⟩) n cap) := (hnx.out.cell (p := ⟨Bs, 0, none⟩) hBn.1 hBn.2).trans hBs
      gi_wp2
      refine hR.mono ?_
      rintro e W3 (⟨rfl, hJ3, hk3⟩ | ⟨rfl, hJx3⟩)
      · -- the round goes on
        have HK3 := Lib.hid (hnx.out.trans hk3)
        clear hk3 hx0 hx1 hx2 hx3 hbs
        gi_wp2
        go_roundw
        case rel => exact ⟨k + 1, pre ++ [⟨k, hlt⟩], by omega, by have := EJ.out; rw [show ((j : Int) - 1) = (n : Int) - 1 - ((k + 1 : Nat) : Int) from by omega], hup.snoc hlt, hJ3, HK3⟩
        case measure => have := EJ.out; simp [intOf]
      · gi_wp2
        refine bodyPost_ret (results_none rfl _ _ _) rfl ?_
        exact ⟨⟨_, rfl⟩, .inr ⟨_, ⟨k + 1, by omega, hup.snoc hlt⟩, hJx3⟩⟩
    · obtain rfl : k = n := by omega
      rw [show ((k : Int) - 1 - k) = -1 from by omega]
      gi_wp2
      go_end0
      exact ⟨⟨_, rfl⟩, .inl ⟨pre, hup, hJs⟩⟩

set_option maxHeartbeats 1000000 in
theorem backward_in (F : Fence) (m : Nat) (h33 : F.fn 12) (hro : F.round = none) (a : Option Addr) (len cap : Nat) (w : World) :
    CallsIn F m Try.prog 12 #[.slice a len cap] w fun e w' => e = .returned (.func (.func 21) #[] #[.pointer (some ⟨w.heap.size, 0, none⟩)]) ∧ w' = w.alloc (.cells #[.slice a len cap] 33) := by
  refine callsIn_of_wp Try.func12 rfl h33 ?_ hro
  simp only [Try.ntmps12, List.size_toArray, List.length_cons, List.length_nil, Nat.reduceAdd, Nat.reduceSub, Array.replicate_succ, Array.replicate_zero, List.push_toArray, List.append_toArray, List.nil_append, List.cons_append]
  gi_wp2
  go_ret
  exact ⟨rfl, rfl⟩

theorem back_stops (F : Fence) (m : Nat) (h34 : F.fn 21) (hro : F.round = none) (hm : 1 ≤ m) (Bs : Nat) (T : Nat → Prop) (n₀ n cap : Nat) (A : Option Addr) (f : Nat → PQ) (hn : n ≤ 17592186044416) (w : World) (hBs : Bs < n₀ ∧ ¬ T Bs) (hn₀ : n₀ ≤ w.heap.size)
    (hc : w.cell? ⟨Bs, 0, none⟩ = some (.slice A n cap)) (hb : 0 < n → ∀ b o, A = some ⟨b, o, none⟩ → b < n₀ ∧ ¬ T b) (hI : PlsAt w A n f) :
    SeqStopsK F m Try.prog 21 #[.pointer (some ⟨Bs, 0, none⟩)] (bw f n) (KeptT T n₀) (fun ys => Ups ys n) (fun pre => ∃ k, k ≤ n ∧ Ups pre k) n w := fun l J Jx W hW _ _ hY h0 => by
  have hc' := (hW.cell (p := ⟨Bs, 0, none⟩) (Nat.lt_of_lt_of_le hBs.1 hn₀)).trans hc
  refine back_in F m h34 hro hm l Bs T n₀ n cap A f hn hb J Jx hY W hc' hBs ?_ h0
  exact hI.of fun b o hp e i v hv => (hW.cell (p := ⟨b, i, none⟩) (Nat.lt_of_lt_of_le (hb hp b o e).1 hn₀)).trans hv
end Go.Proofs.Ytbobmhobaaeohaa
