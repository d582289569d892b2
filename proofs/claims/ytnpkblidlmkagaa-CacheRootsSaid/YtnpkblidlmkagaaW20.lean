/- Words for a region that makes two numbers at once. -/
import Derived.Test.YtnpkblidlmkagaaW19
import Derived.Deep.CutRange
import Derived.Deep.RegionHeld3
set_option linter.unusedSimpArgs false
set_option linter.unusedVariables false
namespace Go.Proofs.Ytnpkblidlmkagaa
open Go.RowKit Fl

/-- What a region keeps: two boxes, and what was there. -/
theorem skD {b0 b1 : Nat} {t u x y : Value} {D w1 : World} (h0 : Two D b0 t u) (h1 : Two D b1 x y) (hb : Below D.heap.size D w1) :
    w1.cell? ⟨b0, 0, none⟩ = some t ∧ w1.cell? ⟨b0, 1, none⟩ = some u ∧ w1.cell? ⟨b1, 0, none⟩ = some x ∧ w1.cell? ⟨b1, 1, none⟩ = some y ∧ Hid (Below D.heap.size D w1) :=
  ⟨keep_cell hb h0.1, keep_cell hb h0.2.1, keep_cell hb h1.1, keep_cell hb h1.2.1, Lib.hid hb⟩
theorem skD1 {b0 b1 : Nat} {t u x y : Value} {D w1 : World} (h0 : Two D b0 t u) (h1 : Two D b1 x y) (hb : Hid (Below D.heap.size D w1)) : w1.cell? ⟨b0, 0, none⟩ = some t ∧ w1.cell? ⟨b0, 1, none⟩ = some u ∧ w1.cell? ⟨b1, 0, none⟩ = some x ∧ w1.cell? ⟨b1, 1, none⟩ = some y ∧ Hid (Below D.heap.size D w1) := skD h0 h1 hb.out
theorem skDa {b0 b1 : Nat} {t u x y : Value} {D w1 : World} {o : Obj} (h0 : Two D b0 t u) (h1 : Two D b1 x y) (hb : Hid (Below D.heap.size D w1)) : (w1.alloc o).cell? ⟨b0, 0, none⟩ = some t ∧ (w1.alloc o).cell? ⟨b0, 1, none⟩ = some u ∧ (w1.alloc o).cell? ⟨b1, 0, none⟩ = some x ∧ (w1.alloc o).cell? ⟨b1, 1, none⟩ = some y ∧ Hid (Below D.heap.size D (w1.alloc o)) := skD h0 h1 (hb.out.alloc hb.out.size _)
theorem skDaa {b0 b1 : Nat} {t u x y : Value} {D w1 : World} {o o' : Obj} (h0 : Two D b0 t u) (h1 : Two D b1 x y) (hb : Hid (Below D.heap.size D w1)) : ((w1.alloc o).alloc o').cell? ⟨b0, 0, none⟩ = some t ∧ ((w1.alloc o).alloc o').cell? ⟨b0, 1, none⟩ = some u ∧ ((w1.alloc o).alloc o').cell? ⟨b1, 0, none⟩ = some x ∧ ((w1.alloc o).alloc o').cell? ⟨b1, 1, none⟩ = some y ∧ Hid (Below D.heap.size D ((w1.alloc o).alloc o')) := skD h0 h1 ((hb.out.alloc hb.out.size _).alloc (hb.out.alloc hb.out.size o).size _)
theorem hid_refl (D : World) : Hid (Below D.heap.size D D) := Lib.hid (Below.refl _ _)
theorem undrew {X w' : World} (h : Below X.drew.heap.size X.drew w') : Below X.heap.size X w' := ⟨h.os, h.tape, h.output, h.size, h.block⟩
theorem hid_drew (D : World) : Hid (Below D.heap.size D D.drew) := Lib.hid (Below.refl _ _).drew
theorem hid_set {D w1 : World} {p : Nat} {n m : Nat} {u v : Value} (hb : Hid (Below D.heap.size D w1)) (hp : D.heap.size ≤ p) : Hid (Below D.heap.size D ((w1.setCell ⟨p, n, none⟩ u).setCell ⟨p, m, none⟩ v)) := Lib.hid ((hb.out.setCell (p := ⟨p, n, none⟩) hp u).setCell (p := ⟨p, m, none⟩) hp v)
theorem hid_alloc {D w1 : World} {o : Obj} (hb : Hid (Below D.heap.size D w1)) : Hid (Below D.heap.size D (w1.alloc o)) := Lib.hid (hb.out.alloc hb.out.size _)
theorem hid_dr {D w : World} (h : Hid (Below D.heap.size D w)) : Hid (Below D.heap.size D w.drew) := Lib.hid h.out.drew
theorem sB {A B C E : Prop} {D W w' : World} (hbb : Below W.heap.size W w') (h : A ∧ B ∧ C ∧ E ∧ Hid (Below D.heap.size D W)) : Hid (Below D.heap.size D w') :=
  Lib.hid (h.2.2.2.2.out.trans (hbb.mono h.2.2.2.2.out.size))
theorem sB0 {D W w' : World} (hbb : Below W.heap.size W w') (h : Hid (Below D.heap.size D W)) : Hid (Below D.heap.size D w') := Lib.hid (h.out.trans (hbb.mono h.out.size))

theorem Two.alloc {w : World} {b : Nat} {u v : Value} (h : Two w b u v) (o : Obj) : Two (w.alloc o) b u v := h.keep ((Below.refl _ w).alloc (Nat.le_refl _) o)
theorem Two.new (w : World) (u v : Value) (t : TypeId) : Two (w.alloc (.cells #[u, v] t)) w.heap.size u v := ⟨by simp [go_sem], by simp [go_sem], by simp [go_sem], by simp [go_sem]⟩

theorem Two.new' {w : World} {b : Nat} (h : b = w.heap.size) (u v : Value) (t : TypeId) : Two (w.alloc (.cells #[u, v] t)) b u v := h ▸ Two.new w u v t
theorem Two.drew {w : World} {b : Nat} {u v : Value} (h : Two w b u v) : Two w.drew b u v := h

/-- Of the two newest blocks, over a call. -/
theorem keepAA {w w' : World} {u v x y : Value} {t t' : TypeId} (hbb : Below ((w.alloc (.cells #[u, v] t)).alloc (.cells #[x, y] t')).heap.size ((w.alloc (.cells #[u, v] t)).alloc (.cells #[x, y] t')) w') :
    Two w' w.heap.size u v ∧ Two w' (w.heap.size + 1) x y :=
  ⟨((Two.new w u v t).alloc _).keep hbb, by have := (Two.new (w.alloc (.cells #[u, v] t)) x y t').keep hbb; simpa using this⟩
theorem keepA {w w' : World} {u v : Value} {t : TypeId} (hbb : Below (w.alloc (.cells #[u, v] t)).heap.size (w.alloc (.cells #[u, v] t)) w') :
    Two w' w.heap.size u v := (Two.new w u v t).keep hbb
theorem Two.over0 {w w' : World} {b : Nat} {u v : Value} (h : Two w b u v) (hbb : Below w.heap.size w w') : Two w' b u v := h.keep hbb
theorem Two.over1 {w w' : World} {b : Nat} {u v : Value} {o : Obj} (h : Two w b u v) (hbb : Below (w.alloc o).heap.size (w.alloc o) w') : Two w' b u v := (h.alloc o).keep hbb
theorem Two.over2 {w w' : World} {b : Nat} {u v : Value} {o o' : Obj} (h : Two w b u v) (hbb : Below ((w.alloc o).alloc o').heap.size ((w.alloc o).alloc o') w') : Two w' b u v := ((h.alloc o).alloc o').keep hbb
theorem Two.setOther {w : World} {b : Nat} {u v : Value} (h : Two w b u v) (p : Addr) (hp : p.block ≠ b) (z : Value) : Two (w.setCell p z) b u v := by
  obtain ⟨r0, r1, f0, f1⟩ := h
  refine ⟨?_, ?_, by rw [World.frozen?_setCell]; exact f0, by rw [World.frozen?_setCell]; exact f1⟩
  · rw [World.cell?_setCell_other]
    · exact r0
    · exact fun h => hp (congrArg Addr.block h)
  · rw [World.cell?_setCell_other]
    · exact r1
    · exact fun h => hp (congrArg Addr.block h)
theorem Two.setBoth {w : World} {b : Nat} {u v : Value} (h : Two w b u v) (x y : Value) : Two ((w.setCell ⟨b, 0, none⟩ x).setCell ⟨b, 1, none⟩ y) b x y := by
  obtain ⟨r0, r1, f0, f1⟩ := h
  refine ⟨by simp [go_sem, r0, r1], by simp [go_sem, r0, r1], by rw [World.frozen?_setCell, World.frozen?_setCell]; exact f0, by rw [World.frozen?_setCell, World.frozen?_setCell]; exact f1⟩

theorem Two.setFirst {w : World} {p q : Nat} {u v x y x' y' : Value} (h : Two w p u v) (hpq : q ≠ p) : Two ((((w.setCell ⟨p, 0, none⟩ x).setCell ⟨p, 1, none⟩ y).setCell ⟨q, 0, none⟩ x').setCell ⟨q, 1, none⟩ y') p x y :=
  ((h.setBoth x y).setOther ⟨q, 0, none⟩ hpq x').setOther ⟨q, 1, none⟩ hpq y'
theorem Two.setSecond {w : World} {p q : Nat} {u v x y x' y' : Value} (h : Two w q u v) (hpq : p ≠ q) : Two ((((w.setCell ⟨p, 0, none⟩ x).setCell ⟨p, 1, none⟩ y).setCell ⟨q, 0, none⟩ x').setCell ⟨q, 1, none⟩ y') q x' y' :=
  Two.setBoth ((h.setOther ⟨p, 0, none⟩ hpq x).setOther ⟨p, 1, none⟩ hpq y) x' y'

end Go.Proofs.Ytnpkblidlmkagaa
