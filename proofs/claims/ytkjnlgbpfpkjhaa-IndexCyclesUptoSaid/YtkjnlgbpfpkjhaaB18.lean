/- append of a whole slice to nil: a copy of it. -/
import Derived.Test.YtkjnlgbpfpkjhaaB9
import Derived.Laws.AppendOwnNone
set_option linter.unusedSimpArgs false
set_option linter.unusedVariables false
namespace Go.Proofs.Ytkjnlgbpfpkjhaa
open Go.RowKit

theorem wpList_cat {ops : Array Oper} {rest : List Oper} {o : Oper} {a : Act} {w : World} {Q : Exit → Act → World → Prop} (hgd : o.guard = none) (s x : Operand)
    (ho : o.op = .call { callee := .builtin .append, args := #[s, x], argTypes := #[22, 22] }) (hs : a.eval s = .slice none 0 0) (A : Option Addr) (n c : Nat) (f : Nat → Int) (hx : a.eval x = .slice A n c) (hA : IntsAt w A n f) (hcz : A = none → c = 0) (hn : n ≤ 17592186044416)
    (h : ∀ A' c' w', Hid (RowAt w' w.heap.size A' n f) → Hid (Below w.heap.size w w') → wpList Try.prog ops Q rest (a.put o.dst (.slice A' n c')) w') : wpList Try.prog ops Q (o :: rest) a w := by
  obtain ⟨i0, hi, hz0, hz1, hz2⟩ := info_parts info3
  have fin : ∀ (v' : Value) (w' : World), w'.ownsRow w.heap.size 3 1 v' n (ownL f n) → w.grownBy w' none → wpList Try.prog ops Q rest (a.put o.dst v') w' := by
    intro v' w' h1 h2
    have hO : Own w' w.heap.size v' n f := h1
    obtain ⟨A', c', rfl, hr⟩ := hO.rowAt
    exact h A' c' w' (Lib.hid hr) (Lib.hid ((Below.refl _ w).grown h2 (Nat.le_refl _) (fun k e => by cases e)))
  rcases A with _ | ad
  · obtain rfl : n = 0 := by
      rcases n with _ | n
      · rfl
      · obtain ⟨_, _, e, _⟩ := hA 0 (by omega)
        cases e
    obtain rfl := hcz rfl
    exact wpList_append_own_none hgd s x 22 ho w.heap.size 3 i0 1 Try.underlying22 hi (.slice none 0 0) 0 [] hs (World.ownsRow_nil _ _ _ _) hx (h none 0 w (Lib.hid (.inl rfl)) (Lib.hid (Below.refl _ _)))
  · refine wpList_append_own w hgd s x 22 ho w.heap.size 3 i0 (.int .i64 0) 1 8 Try.underlying22 hi hz0 hz1 hz2 rfl (by decide) (.slice none 0 0) 0 [] hs (World.ownsRow_nil _ _ _ _) ad n c (ownL f n) hx (by simp [ownL_length]) ?_ ?_ (by unfold maxLen; omega) (by omega) (Nat.le_refl _) ?_
    · intro j u hj
      have hjn : j < n := by
        have := (List.getElem?_eq_some_iff.1 hj).1
        rwa [ownL_length] at this
      rw [ownL_get f n j hjn] at hj
      cases hj
      obtain ⟨b, o, e, hc⟩ := hA j hjn
      cases e
      rw [Addr.add_zero_]
      exact hc
    · intro u hu; unfold ownL at hu; obtain ⟨x, _, rfl⟩ := List.mem_map.1 hu; rfl
    · intro v' w' h1 h2 _
      exact fin v' w' (by simpa using h1) h2

end Go.Proofs.Ytkjnlgbpfpkjhaa
