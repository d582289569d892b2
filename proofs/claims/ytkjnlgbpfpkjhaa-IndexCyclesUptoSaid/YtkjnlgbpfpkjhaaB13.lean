/- Cycles at a permutation. -/
import Derived.Test.YtkjnlgbpfpkjhaaB12
set_option linter.unusedSimpArgs false
set_option linter.unusedVariables false
namespace Go.Proofs.Ytkjnlgbpfpkjhaa
open Go.RowKit

/-- How many numbers are gathered from x on. -/
noncomputable def clen (p : Nat → Int) (x : Nat) : Nat := if lst p x then per p x else 0
open Classical in
/-- What is still marked behind j of them. -/
noncomputable def clr (p : Nat → Int) (x j : Nat) : Nat → Bool := fun y => keeps p x y && decide (∀ i, i < j → it p x i ≠ y)

theorem clr_zero (p : Nat → Int) (x y : Nat) : clr p x 0 y = keeps p x y := by unfold clr; simp
theorem clr_yes {p : Nat → Int} {n x j : Nat} (h : Perm p n) (hx : x < n) (hj : j < clen p x) : clr p x j (it p x j) = true := by
  unfold clen at hj
  by_cases hl : lst p x = true
  · rw [if_pos hl] at hj
    unfold clr
    rw [Bool.and_eq_true, decide_eq_true_iff, keeps_it h hx]
    exact ⟨hl, fun i hi => cyc_inj h hx (per_cyc h hx) hi hj⟩
  · rw [if_neg hl] at hj; omega
theorem clr_no {p : Nat → Int} {n x : Nat} (h : Perm p n) (hx : x < n) : clr p x (clen p x) (it p x (clen p x)) = false := by
  unfold clen
  by_cases hl : lst p x = true
  · rw [if_pos hl]
    have c := per_cyc h hx
    unfold clr
    rw [c.back, Bool.and_eq_false_iff, decide_eq_false_iff_not]
    right
    intro hh
    exact hh 0 c.pos rfl
  · rw [if_neg hl, clr_zero]
    show keeps p x x = false
    simpa [lst] using hl
theorem clr_end {p : Nat → Int} {n x y : Nat} (h : Perm p n) (hx : x < n) (hy : y < n) : clr p x (clen p x) y = keeps p (x + 1) y := by
  unfold clen
  by_cases hl : lst p x = true
  · rw [if_pos hl, keeps_yes h hx hy hl]
    unfold clr
    congr 1
  · rw [if_neg hl, clr_zero, keeps_not h hy (by simpa using hl)]
theorem clr_step (p : Nat → Int) (x j y : Nat) : updB (clr p x j) (it p x j) false y = clr p x (j + 1) y := by
  unfold updB clr
  by_cases e : y = it p x j
  · rw [if_pos e]
    symm
    rw [Bool.and_eq_false_iff, decide_eq_false_iff_not]
    right
    intro hh
    exact hh j (by omega) e.symm
  · rw [if_neg e]
    congr 1
    rw [Bool.eq_iff_iff, decide_eq_true_iff, decide_eq_true_iff]
    constructor
    · intro hh i hi
      by_cases e2 : i = j
      · subst e2; exact fun e3 => e e3.symm
      · exact hh i (by omega)
    · intro hh i hi
      exact hh i (by omega)
theorem clen_le {p : Nat → Int} {n x : Nat} (h : Perm p n) (hx : x < n) : clen p x ≤ n := by
  unfold clen
  have := per_le h hx
  split <;> omega

theorem seen_all {p : Nat → Int} {n y : Nat} (h : Perm p n) (hy : y < n) : seen p n y = true := by
  have c := per_cyc h hy
  obtain ⟨L, hL⟩ : ∃ L, per p y = L + 1 := ⟨per p y - 1, by have := c.pos; omega⟩
  have b := c.back
  rw [hL] at b
  have e := seen_of (p := p) (it_lt h hy L)
  have b' : (p (it p y L)).toNat = y := b
  rw [b'] at e
  exact e

theorem Own.form {w : World} {base n : Nat} {v : Value} {g : Nat → Int} (h : Own w base v n g) : ∃ A c, v = .slice A n c := by
  obtain ⟨A, c, e, _⟩ := h.ints
  exact ⟨A, c, e⟩
theorem Own.grown {w w' : World} {base n : Nat} {v : Value} {row : Option Nat} {g : Nat → Int} (h : Own w base v n g) (hg : w.grownBy w' row) (hr : v.ownBlock = none ∨ v.ownBlock ≠ row) : Own w' base v n g := World.ownsRow.kept h hg hr
theorem Own.intsOf {w : World} {base n c : Nat} {A : Option Addr} {g : Nat → Int} (h : Own w base (.slice A n c) n g) : IntsAt w A n g := by
  obtain ⟨A', c', e, hi, _⟩ := h.ints
  cases e
  exact hi
theorem Own.more {w : World} {base B n : Nat} {v : Value} {g : Nat → Int} (h : Own w B v n g) (hb : base ≤ B) : Own w base v n g := by
  have h0 : w.ownsRow B 3 1 v n (ownL g n) := h
  refine ⟨h0.1, ?_⟩
  rcases h0.2 with h | ⟨b, cap, cur, e, h1, h2⟩
  · exact .inl h
  · exact .inr ⟨b, cap, cur, e, by omega, h2⟩

/-- A row of slices (whose type is e) of the call's own. -/
def OwnS (e : TypeId) (w : World) (base : Nat) (v : Value) (m : Nat) (vs : List Value) : Prop := w.ownsRow base e 1 v m vs
theorem OwnS.kept {e : TypeId} {w w' : World} {base m : Nat} {v : Value} {row : Option Nat} {vs : List Value} (h : OwnS e w base v m vs) (hg : w.grownBy w' row) (hr : v.ownBlock = none ∨ v.ownBlock ≠ row) : OwnS e w' base v m vs := World.ownsRow.kept h hg hr
theorem OwnS.apart {e : TypeId} {w : World} {base base' m n : Nat} {v u : Value} {vs : List Value} {g : Nat → Int} (h : OwnS e w base v m vs) (k : Own w base' u n g) (he : e ≠ 3) : u.ownBlock = none ∨ u.ownBlock ≠ v.ownBlock := by
  have h0 : w.ownsRow base e 1 v m vs := h
  have k0 : w.ownsRow base' 3 1 u n (ownL g n) := k
  rcases k0.2 with ⟨rfl, _⟩ | ⟨b, cap, cur, rfl, _, h2, _⟩
  · exact .inl rfl
  · right
    rcases h0.2 with ⟨rfl, _⟩ | ⟨b', cap', cur', rfl, _, h2', _⟩
    · simp [Value.ownBlock]
    · simp only [Value.ownBlock, ne_eq, Option.some.injEq]
      rintro rfl
      rw [h2] at h2'
      cases h2'
      exact he rfl
theorem OwnS.base {e : TypeId} {w : World} {base m : Nat} {v : Value} {vs : List Value} (h : OwnS e w base v m vs) : ∀ k, v.ownBlock = some k → base ≤ k := fun k hk => (World.ownsRow.lt h k hk).1

/-- The circles that are done. -/
def Done (w : World) (base : Nat) (us : List Value) (cs : List Nat) (p : Nat → Int) : Prop :=
  us.length = cs.length ∧ ∀ (i x : Nat), cs[i]? = some x → ∃ u, us[i]? = some u ∧ Own w base u (per p x) (fun j => (it p x j : Int))
theorem Done.map {w w' : World} {base base' : Nat} {us : List Value} {cs : List Nat} {p : Nat → Int} (h : Done w base us cs p) (hk : ∀ u n g, Own w base u n g → Own w' base' u n g) : Done w' base' us cs p :=
  ⟨h.1, fun i x hx => by
    obtain ⟨u, e, ho⟩ := h.2 i x hx
    exact ⟨u, e, hk _ _ _ ho⟩⟩
theorem Done.snoc {w : World} {base : Nat} {us : List Value} {cs : List Nat} {p : Nat → Int} {u : Value} {x : Nat} (h : Done w base us cs p) (ho : Own w base u (per p x) (fun j => (it p x j : Int))) : Done w base (us ++ [u]) (cs ++ [x]) p := by
  refine ⟨by simp [h.1], fun i y hy => ?_⟩
  by_cases hi : i < cs.length
  · rw [List.getElem?_append_left hi] at hy
    obtain ⟨v, e, hv⟩ := h.2 i y hy
    exact ⟨v, by rw [List.getElem?_append_left (by have := h.1; omega)]; exact e, hv⟩
  · rw [List.getElem?_append_right (by omega)] at hy
    have e0 : i - cs.length = 0 := by
      rcases hq : i - cs.length with _ | q
      · rfl
      · rw [hq] at hy; simp at hy
    rw [e0] at hy
    simp at hy
    subst hy
    exact ⟨u, by rw [List.getElem?_append_right (by have := h.1; omega), h.1, e0]; rfl, ho⟩

theorem info22 : (Try.prog.info? 22).map (fun i => (i.zero, i.size, i.bytes)) = some (some (.slice none 0 0), 1, 24) := by kernel_rfl

/-- append of one slice to a row of slices. -/
theorem wpList_appS {ops : Array Oper} {rest : List Oper} {o : Oper} {a : Act} {w : World} {Q : Exit → Act → World → Prop} (T e : TypeId) (i0 : TypeInfo) (z : Value) (hT : Try.prog.underlying T = some (.slice e)) (hi : Try.prog.info? e = some i0) (hz0 : i0.zero = some z) (hz1 : i0.size = 1) (hz2 : i0.bytes = 24) (hzc : z.cells.size = 1)
    (hgd : o.guard = none) (s x : Operand)
    (ho : o.op = .call { callee := .builtin .append, args := #[s, x], argTypes := #[T, T] }) (base : Nat) (v : Value) (k : Nat) (us : List Value) (hs : a.eval s = v) (hown : OwnS e w base v k us)
    (b c : Nat) (A : Option Addr) (L C : Nat) (hx : a.eval x = .slice (some ⟨b, 0, none⟩) 1 c) (hc : w.cell? ⟨b, 0, none⟩ = some (.slice A L C)) (hk : k + 1 ≤ 1000000001) (hbase : base ≤ w.heap.size)
    (h : ∀ v' w', Hid (OwnS e w' base v' (k + 1) (us ++ [.slice A L C])) → Hid (w.grownBy w' v.ownBlock) → wpList Try.prog ops Q rest (a.put o.dst v') w') : wpList Try.prog ops Q (o :: rest) a w := by
  refine wpList_append_own w hgd s x T ho base e i0 z 1 24 hT hi hz0 hz1 hz2 hzc (by decide) v k _ hs hown ⟨b, 0, none⟩ 1 c [.slice A L C] hx rfl ?_ ?_ (by unfold maxLen; omega) (by omega) hbase ?_
  · intro j z hj
    obtain rfl : j = 0 := by
      rcases j with _ | j
      · rfl
      · simp at hj
    simp at hj
    subst hj
    rwa [Addr.add]
  · intro z hz
    simp at hz
    subst hz
    rfl
  · intro v' w' h1 h2 _
    exact h v' w' (Lib.hid h1) (Lib.hid h2)

def lenOf : Value → Nat
  | .slice _ n _ => n
  | _ => 0

theorem grown_trans {b : Nat} {x y z : World} {row : Option Nat} (h : x.grownBy y (some b)) (k : y.grownBy z row) (hr : ∀ g, row = some g → x.heap.size ≤ g) : x.grownBy z (some b) :=
  ⟨k.os.trans h.os, k.tape.trans h.tape, k.output.trans h.output, Nat.le_trans h.size k.size, fun i hi e => (k.block i (Nat.lt_of_lt_of_le hi h.size) (fun e2 => by have := hr i e2.symm; omega)).trans (h.block i hi e)⟩
theorem grown_set {b : Nat} {x y : World} (h : x.grownBy y (some b)) (o : Nat) (v : Value) : x.grownBy (y.setCell ⟨b, o, none⟩ v) (some b) :=
  ⟨h.os, h.tape, h.output, by simpa [World.setCell] using h.size, fun i hi e => (Below.heap_setCell _ _ _ _ (fun e2 => e (by rw [e2]))).trans (h.block i hi e)⟩
theorem grown_below {b c : Nat} {x y : World} (h : x.grownBy y (some b)) (hb : c ≤ b) (hc : c ≤ x.heap.size) : Below c x y :=
  ⟨h.os, h.tape, h.output, h.size, fun k hk => h.block k (by omega) (fun e => by cases e; omega)⟩

end Go.Proofs.Ytkjnlgbpfpkjhaa
