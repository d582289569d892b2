/- Rows that grow by append; the contract of turned. -/
import Derived.Test.YtkjnlgbpfpkjhaaB2
import Derived.Deep.AppendLies
import Derived.Maps.AppendAt
set_option linter.unusedSimpArgs false
set_option linter.unusedVariables false
namespace Go.Proofs.Ytkjnlgbpfpkjhaa
open Go.RowKit

/-- The first n values of g, as cells. -/
def ownL (g : Nat → Int) (n : Nat) : List Value := (List.range n).map fun j => Value.int .i64 (g j)
theorem ownL_succ (g : Nat → Int) (n : Nat) : ownL g (n + 1) = ownL g n ++ [Value.int .i64 (g n)] := by
  unfold ownL; rw [List.range_succ, List.map_append]; rfl
theorem ownL_get (g : Nat → Int) (n i : Nat) (h : i < n) : (ownL g n)[i]? = some (Value.int .i64 (g i)) := by
  unfold ownL; simp [h]
theorem ownL_length (g : Nat → Int) (n : Nat) : (ownL g n).length = n := by unfold ownL; simp

/-- A row of integers of the call's own (from block base on), that may grow. -/
def Own (w : World) (base : Nat) (v : Value) (n : Nat) (g : Nat → Int) : Prop := w.ownsRow base 3 1 v n (ownL g n)

theorem Own.nil (w : World) (base : Nat) (g : Nat → Int) : Own w base (.slice none 0 0) 0 g := World.ownsRow_nil _ _ _ _
theorem Own.ints {w : World} {base n : Nat} {v : Value} {g : Nat → Int} (h : Own w base v n g) : ∃ A c, v = .slice A n c ∧ IntsAt w A n g ∧ n ≤ c ∧ c ≤ maxLen := by
  have h0 : w.ownsRow base 3 1 v n (ownL g n) := h
  rcases h0.2 with ⟨rfl, rfl⟩ | ⟨b, cap, cur, rfl, _, _, h1, h2, _⟩
  · exact ⟨none, 0, rfl, IntsAt.nil _ _ _, by omega, by unfold maxLen; omega⟩
  · refine ⟨_, cap, rfl, fun i hi => ⟨b, 0, rfl, ?_⟩, h1, h2⟩
    have := h0.cells (g := b) rfl i _ (ownL_get g n i hi)
    rw [Nat.zero_add]
    rw [Addr.add] at this
    split at this
    · rename_i e
      subst e
      exact this
    · simpa using this

/-- append of one integer to a row of the call's own. -/
theorem wpList_app {ops : Array Oper} {rest : List Oper} {o : Oper} {a : Act} {w : World} {Q : Exit → Act → World → Prop} (hgd : o.guard = none) (s x : Operand)
    (ho : o.op = .call { callee := .builtin .append, args := #[s, x], argTypes := #[22, 22] }) (base : Nat) (v : Value) (k : Nat) (g : Nat → Int) (hs : a.eval s = v) (hown : Own w base v k g)
    (b c : Nat) (u : Int) (hx : a.eval x = .slice (some ⟨b, 0, none⟩) 1 c) (hc : w.cell? ⟨b, 0, none⟩ = some (.int .i64 u)) (hu : u = g k) (hk : k + 1 ≤ 17592186044416) (hbase : base ≤ w.heap.size)
    (h : ∀ v' w', Hid (Own w' base v' (k + 1) g) → Hid (w.grownBy w' v.ownBlock) → wpList Try.prog ops Q rest (a.put o.dst v') w') : wpList Try.prog ops Q (o :: rest) a w := by
  obtain ⟨i0, hi, hz0, hz1, hz2⟩ := info_parts info3
  refine wpList_append_own w hgd s x 22 ho base 3 i0 (.int .i64 0) 1 8 Try.underlying22 hi hz0 hz1 hz2 rfl (by decide) v k _ hs hown ⟨b, 0, none⟩ 1 c [.int .i64 u] hx rfl ?_ ?_ (by unfold maxLen; omega) (by omega) hbase ?_
  · intro j z hj
    obtain rfl : j = 0 := by
      rcases j with _ | j
      · rfl
      · simp at hj
    simp at hj
    subst hj
    rwa [Addr.add]
  · intro z hz
    simp at hz
    subst hz
    rfl
  · intro v' w' h1 h2 _
    refine h v' w' (Lib.hid ?_) (Lib.hid h2)
    show w'.ownsRow base 3 1 v' (k + 1) (ownL g (k + 1))
    rw [ownL_succ, ← hu]
    exact h1

theorem Own.base {w : World} {base n : Nat} {v : Value} {g : Nat → Int} (h : Own w base v n g) : ∀ k, v.ownBlock = some k → base ≤ k := fun k hk => (World.ownsRow.lt h k hk).1
theorem Own.alloc {w : World} {base n : Nat} {v : Value} {g : Nat → Int} (h : Own w base v n g) (o : Obj) : Own (w.alloc o) base v n g := World.ownsRow.alloc h o
theorem Own.grow {w0 w w' : World} {base n : Nat} {v : Value} {g : Nat → Int} (h : Own w base v n g) (hb : Below base w0 w) (hg : w.grownBy w' v.ownBlock) (hs : base ≤ w.heap.size) : Below base w0 w' :=
  hb.grown hg hs (fun k e => h.base k e)

set_option maxRecDepth 100000 in
set_option maxHeartbeats 1000000 in
theorem turned_any (A : Option Addr) (n c : Nat) (f : Nat → Int) (w : World) (hA : IntsAt w A n f) (hn : n ≤ 30) :
    Calls Try.prog 31 #[.slice A n c] w fun z w' => ∃ A' c', z = .returned (.slice A' n c') ∧ IntsAt w' A' n (fun j => f (n - 1 - j)) ∧ Below w.heap.size w w' := by
  have HA := Lib.hid hA
  clear hA
  go_enter Try.func31, Try.ntmps31
  go_wp2
  go_loopw [3, 4] (fun v i wr => ∃ k : Nat, k ≤ n ∧ i = .int .i64 ((n : Int) - 1 - k) ∧ Hid (Own wr w.heap.size v k (fun j => f (n - 1 - j))) ∧ Hid (Below w.heap.size w wr)) (fun _ i _ => (intOf i + 1).toNat)
  case atStart => exact ⟨0, by omega, by simp, Lib.hid (Own.nil _ _ _), Lib.hid (Below.refl _ _)⟩
  case round =>
    obtain ⟨k, hk, rfl, ho, hb⟩ := hrel
    by_cases hlt : k < n
    · obtain ⟨j, hj⟩ : ∃ j : Nat, j = n - 1 - k := ⟨_, rfl⟩
      have ej : (n : Int) - 1 - k = j := by omega
      have hjn : j < n := by omega
      rw [ej]
      obtain ⟨b, o, rfl, hc⟩ := HA.out.keep hb.out j hjn
      have HJ := Lib.hid hj
      have EJ := Lib.hid ej
      have hz := hb.out.size
      clear ej hj
      go_wp2_with (at_builtin; refine wpList_app rfl _ _ rfl w.heap.size _ k (fun j => f (n - 1 - j)) rfl (ho.out.alloc _) _ _ (f j) rfl (by simp [go_sem]) (by rw [HJ.out]) (by omega) (by simp; omega) ?_; intro v' w' h1 h2)
      go_roundw
      case rel => exact ⟨k + 1, by omega, by have := EJ.out; rw [show ((j : Int) - 1) = (n : Int) - 1 - ((k + 1 : Nat) : Int) from by omega], h1, Lib.hid ((ho.out.alloc _).grow (hb.out.alloc hb.out.size _) h2.out (by simp; omega))⟩
      case measure => have := EJ.out; simp [intOf]
    · obtain rfl : k = n := by omega
      rw [show ((k : Int) - 1 - k) = -1 from by omega]
      obtain ⟨A', c', rfl, h1, h2, h3⟩ := ho.out.ints
      clear h2 h3
      have H1 := Lib.hid h1
      clear h1
      go_wp2
      go_ret
      exact ⟨_, _, rfl, H1.out, hb.out⟩
end Go.Proofs.Ytkjnlgbpfpkjhaa
