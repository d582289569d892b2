/- Words for slices of floats, and of integers; rows of floats that grow by append. -/
import Derived.Test.YtnpkblidlmkagaaW15
import Derived.Deep.AppendLies
import Derived.Maps.AppendAt
set_option linter.unusedSimpArgs false
set_option linter.unusedVariables false
namespace Go.Proofs.Ytnpkblidlmkagaa
open Go.RowKit Fl

/-- The slice at A reads as the integers f 0, .., f (n - 1). -/
def IntsAt (w : World) (A : Option Addr) (n : Nat) (f : Nat → Int) : Prop := ∀ i, i < n → ∃ b o, A = some ⟨b, o, none⟩ ∧ w.cell? ⟨b, o + i, none⟩ = some (.int .i64 (f i))
theorem IntsAt.keep {W w1 : World} {A : Option Addr} {n : Nat} {f : Nat → Int} (hb : Below W.heap.size W w1) (h : IntsAt W A n f) : IntsAt w1 A n f := fun i hi => by
  obtain ⟨b, o, e, hc⟩ := h i hi
  exact ⟨b, o, e, keep_cell hb hc⟩
theorem IntsAt.nil (w : World) (A : Option Addr) (f : Nat → Int) : IntsAt w A 0 f := fun i hi => by omega
theorem IntsAt.le {w : World} {A : Option Addr} {n m : Nat} {f : Nat → Int} (h : IntsAt w A n f) (hm : m ≤ n) : IntsAt w A m f := fun i hi => h i (by omega)

/-- The slice at A reads as the floats f 0, .., f (n - 1). -/
def FltsAt (w : World) (A : Option Addr) (n : Nat) (f : Nat → Nat) : Prop := ∀ i, i < n → ∃ b o, A = some ⟨b, o, none⟩ ∧ w.cell? ⟨b, o + i, none⟩ = some (.float .f64 (f i))
theorem FltsAt.keep {W w1 : World} {A : Option Addr} {n : Nat} {f : Nat → Nat} (hb : Below W.heap.size W w1) (h : FltsAt W A n f) : FltsAt w1 A n f := fun i hi => by
  obtain ⟨b, o, e, hc⟩ := h i hi
  exact ⟨b, o, e, keep_cell hb hc⟩
theorem FltsAt.nil (w : World) (A : Option Addr) (f : Nat → Nat) : FltsAt w A 0 f := fun i hi => by omega

/-- The first n values of g, as cells. -/
def ownF (g : Nat → Nat) (n : Nat) : List Value := (List.range n).map fun j => Value.float .f64 (g j)
theorem ownF_succ (g : Nat → Nat) (n : Nat) : ownF g (n + 1) = ownF g n ++ [Value.float .f64 (g n)] := by
  unfold ownF; rw [List.range_succ, List.map_append]; rfl
theorem ownF_get (g : Nat → Nat) (n i : Nat) (h : i < n) : (ownF g n)[i]? = some (Value.float .f64 (g i)) := by
  unfold ownF; simp [h]

/-- A row of floats of the call's own (from block base on), that may grow. -/
def OwnF (w : World) (base : Nat) (v : Value) (n : Nat) (g : Nat → Nat) : Prop := w.ownsRow base 22 1 v n (ownF g n)

theorem OwnF.nil (w : World) (base : Nat) (g : Nat → Nat) : OwnF w base (.slice none 0 0) 0 g := World.ownsRow_nil _ _ _ _
theorem OwnF.flts {w : World} {base n : Nat} {v : Value} {g : Nat → Nat} (h : OwnF w base v n g) : ∃ A c, v = .slice A n c ∧ FltsAt w A n g ∧ n ≤ c ∧ c ≤ maxLen := by
  have h0 : w.ownsRow base 22 1 v n (ownF g n) := h
  rcases h0.2 with ⟨rfl, rfl⟩ | ⟨b, cap, cur, rfl, _, _, h1, h2, _⟩
  · exact ⟨none, 0, rfl, FltsAt.nil _ _ _, by omega, by unfold maxLen; omega⟩
  · refine ⟨_, cap, rfl, fun i hi => ⟨b, 0, rfl, ?_⟩, h1, h2⟩
    have := h0.cells (g := b) rfl i _ (ownF_get g n i hi)
    rw [Nat.zero_add]
    rw [Addr.add] at this
    split at this
    · rename_i e
      subst e
      exact this
    · simpa using this

theorem info22 : (Try.prog.info? 22).map (fun i => (i.zero, i.size, i.bytes)) = some (some (.float .f64 0), 1, 8) := by kernel_rfl

/-- append of one float to a row of the call's own. -/
theorem wpList_appF {ops : Array Oper} {rest : List Oper} {o : Oper} {a : Act} {w : World} {Q : Exit → Act → World → Prop} (hgd : o.guard = none) (s x : Operand)
    (ho : o.op = .call { callee := .builtin .append, args := #[s, x], argTypes := #[67, 67] }) (base : Nat) (v : Value) (k : Nat) (g : Nat → Nat) (hs : a.eval s = v) (hown : OwnF w base v k g)
    (b c : Nat) (u : Nat) (hx : a.eval x = .slice (some ⟨b, 0, none⟩) 1 c) (hc : w.cell? ⟨b, 0, none⟩ = some (.float .f64 u)) (hu : u = g k) (hk : k + 1 ≤ 17592186044416) (hbase : base ≤ w.heap.size)
    (h : ∀ v' w', Hid (OwnF w' base v' (k + 1) g) → Hid (w.grownBy w' v.ownBlock) → wpList Try.prog ops Q rest (a.put o.dst v') w') : wpList Try.prog ops Q (o :: rest) a w := by
  obtain ⟨i0, hi, hz0, hz1, hz2⟩ := info_parts info22
  refine wpList_append_own w hgd s x 67 ho base 22 i0 (.float .f64 0) 1 8 Try.underlying67 hi hz0 hz1 hz2 rfl (by decide) v k _ hs hown ⟨b, 0, none⟩ 1 c [.float .f64 u] hx rfl ?_ ?_ (by unfold maxLen; omega) (by omega) hbase ?_
  · intro j z hj
    obtain rfl : j = 0 := by
      rcases j with _ | j
      · rfl
      · simp at hj
    obtain rfl : Value.float .f64 u = z := by simpa using hj
    exact hc
  · intro z hz
    simp at hz
    subst hz
    rfl
  · intro v' w' h1 h2 _
    refine h v' w' (Lib.hid ?_) (Lib.hid h2)
    show w'.ownsRow base 22 1 v' (k + 1) (ownF g (k + 1))
    rw [ownF_succ, ← hu]
    exact h1

theorem OwnF.base {w : World} {base n : Nat} {v : Value} {g : Nat → Nat} (h : OwnF w base v n g) : ∀ k, v.ownBlock = some k → base ≤ k := fun k hk => (World.ownsRow.lt h k hk).1
theorem OwnF.alloc {w : World} {base n : Nat} {v : Value} {g : Nat → Nat} (h : OwnF w base v n g) (o : Obj) : OwnF (w.alloc o) base v n g := World.ownsRow.alloc h o
theorem OwnF.grow {w0 w w' : World} {base n : Nat} {v : Value} {g : Nat → Nat} (h : OwnF w base v n g) (hb : Below base w0 w) (hg : w.grownBy w' v.ownBlock) (hs : base ≤ w.heap.size) : Below base w0 w' :=
  hb.grown hg hs (fun k e => h.base k e)

end Go.Proofs.Ytnpkblidlmkagaa
