import Derived.Test.YtnpkblidlmkagaaRA
import Derived.Deep.CutRange
import Derived.BigQuiet
import Derived.Test.YtnpkblidlmkagaaV1
/- The walk of the document's Near. -/
set_option linter.unusedSimpArgs false
set_option linter.unusedVariables false
namespace Go.Proofs.Ytnpkblidlmkagaa
open Go.RowKit Fl

theorem Fx.congr {f g : Nat → Int} {V : Int} (h : Fx f V) (e : ∀ i, i < 5 → f i = g i) : Fx g V := ⟨by rw [← val_congr f g 5 e]; exact h.v, fun j hj => by rw [← e j hj]; exact h.lo j hj⟩

theorem row20_new (w : World) (t : TypeId) : RowI (w.alloc (.cells #[.int .i64 0, .int .i64 0, .int .i64 0, .int .i64 0, .int .i64 0, .int .i64 0, .int .i64 0, .int .i64 0, .int .i64 0, .int .i64 0, .int .i64 0, .int .i64 0, .int .i64 0, .int .i64 0, .int .i64 0, .int .i64 0, .int .i64 0, .int .i64 0, .int .i64 0, .int .i64 0] t)) w.heap.size 20 (fun _ => 0) := by
  intro i hi
  match i, hi with
  | 0, _ => simp [go_sem]
  | 1, _ => simp [go_sem]
  | 2, _ => simp [go_sem]
  | 3, _ => simp [go_sem]
  | 4, _ => simp [go_sem]
  | 5, _ => simp [go_sem]
  | 6, _ => simp [go_sem]
  | 7, _ => simp [go_sem]
  | 8, _ => simp [go_sem]
  | 9, _ => simp [go_sem]
  | 10, _ => simp [go_sem]
  | 11, _ => simp [go_sem]
  | 12, _ => simp [go_sem]
  | 13, _ => simp [go_sem]
  | 14, _ => simp [go_sem]
  | 15, _ => simp [go_sem]
  | 16, _ => simp [go_sem]
  | 17, _ => simp [go_sem]
  | 18, _ => simp [go_sem]
  | 19, _ => simp [go_sem]
  | n + 20, h => exact absurd h (by omega)

theorem RowI.set5 {w : World} {b : Nat} {f : Nat → Int} (h : RowI w b 5 f) (g : Nat → Int) : RowI (((((w.setCell ⟨b, 0, none⟩ (.int .i64 (g 0))).setCell ⟨b, 1, none⟩ (.int .i64 (g 1))).setCell ⟨b, 2, none⟩ (.int .i64 (g 2))).setCell ⟨b, 3, none⟩ (.int .i64 (g 3))).setCell ⟨b, 4, none⟩ (.int .i64 (g 4))) b 5 g := by
  have h5 := ((((h.set (show 0 < 5 by omega) (g 0)).set (show 1 < 5 by omega) (g 1)).set (show 2 < 5 by omega) (g 2)).set (show 3 < 5 by omega) (g 3)).set (show 4 < 5 by omega) (g 4)
  refine h5.congr (fun i hi => ?_)
  rcases (show i = 0 ∨ i = 1 ∨ i = 2 ∨ i = 3 ∨ i = 4 by omega) with rfl | rfl | rfl | rfl | rfl <;> simp [upd]
theorem RowI.other5 {w : World} {b c n : Nat} {f : Nat → Int} (h : RowI w c n f) (hbc : b ≠ c) (g : Nat → Int) : RowI (((((w.setCell ⟨b, 0, none⟩ (.int .i64 (g 0))).setCell ⟨b, 1, none⟩ (.int .i64 (g 1))).setCell ⟨b, 2, none⟩ (.int .i64 (g 2))).setCell ⟨b, 3, none⟩ (.int .i64 (g 3))).setCell ⟨b, 4, none⟩ (.int .i64 (g 4))) c n f :=
  ((((h.setOther ⟨b, 0, none⟩ hbc _).setOther ⟨b, 1, none⟩ hbc _).setOther ⟨b, 2, none⟩ hbc _).setOther ⟨b, 3, none⟩ hbc _).setOther ⟨b, 4, none⟩ hbc _

theorem RowI.set5at {w : World} {b : Nat} {s : Nat → Int} (h : RowI w b 20 s) (j : Nat) (hj : j < 4) (g : Nat → Int) :
    RowI (((((w.setCell ⟨b, 5 * j, none⟩ (.int .i64 (g 0))).setCell ⟨b, 5 * j + 1, none⟩ (.int .i64 (g 1))).setCell ⟨b, 5 * j + 2, none⟩ (.int .i64 (g 2))).setCell ⟨b, 5 * j + 3, none⟩ (.int .i64 (g 3))).setCell ⟨b, 5 * j + 4, none⟩ (.int .i64 (g 4))) b 20
      (fun i => if 5 * j ≤ i ∧ i < 5 * j + 5 then g (i - 5 * j) else s i) := by
  have h5 := ((((h.set (show 5 * j < 20 by omega) (g 0)).set (show 5 * j + 1 < 20 by omega) (g 1)).set (show 5 * j + 2 < 20 by omega) (g 2)).set (show 5 * j + 3 < 20 by omega) (g 3)).set (show 5 * j + 4 < 20 by omega) (g 4)
  refine h5.congr (fun i hi => ?_)
  by_cases hr : 5 * j ≤ i ∧ i < 5 * j + 5
  · rw [if_pos hr]
    rcases (show i = 5 * j ∨ i = 5 * j + 1 ∨ i = 5 * j + 2 ∨ i = 5 * j + 3 ∨ i = 5 * j + 4 by omega) with rfl | rfl | rfl | rfl | rfl <;> simp [upd] <;> (congr 1; omega)
  · rw [if_neg hr]
    unfold upd
    rw [if_neg (by omega), if_neg (by omega), if_neg (by omega), if_neg (by omega), if_neg (by omega)]

/-- What stands behind the sum of a round. -/
structure NSum (wo w1s ws : Nat) (x t s h' : Nat → Int) (j : Nat) (w wx : World) : Prop where
  rt : RowI wx wo 5 t
  rs : RowI wx (wo + 1) 20 (fun i => if 5 * j ≤ i ∧ i < 5 * j + 5 then h' (i - 5 * j) else s i)
  rx : RowI wx w1s 5 x
  z4 : RowI wx ws 5 (fun _ => 0)
  z5 : RowI wx (ws + 1) 5 (fun _ => 0)
  bw : Below w.heap.size w wx

theorem nsum_end {wo w1s ws : Nat} {x t s h' : Nat → Int} {j : Nat} {w wx : World} (hj : 5 * j + 5 ≤ 20) (rt : RowI wx wo 5 t) (rs : RowI wx (wo + 1) 20 s) (rx : RowI wx w1s 5 x) (z4 : RowI wx ws 5 (fun _ => 0)) (z5 : RowI wx (ws + 1) 5 (fun _ => 0)) (bw : Below w.heap.size w wx)
    (hle : w.heap.size ≤ wo + 1) (n1 : wo + 1 ≠ w1s) (n2 : wo + 1 ≠ ws) (n3 : wo + 1 ≠ ws + 1) :
    NSum wo w1s ws x t s h' j w (((((wx.setCell ⟨wo + 1, 5 * j, none⟩ (.int .i64 (h' 0))).setCell ⟨wo + 1, 5 * j + 1, none⟩ (.int .i64 (h' 1))).setCell ⟨wo + 1, 5 * j + 2, none⟩ (.int .i64 (h' 2))).setCell ⟨wo + 1, 5 * j + 3, none⟩ (.int .i64 (h' 3))).setCell ⟨wo + 1, 5 * j + 4, none⟩ (.int .i64 (h' 4))) := by
  have go : ∀ {c n : Nat} {f : Nat → Int}, RowI wx c n f → wo + 1 ≠ c → RowI (((((wx.setCell ⟨wo + 1, 5 * j, none⟩ (.int .i64 (h' 0))).setCell ⟨wo + 1, 5 * j + 1, none⟩ (.int .i64 (h' 1))).setCell ⟨wo + 1, 5 * j + 2, none⟩ (.int .i64 (h' 2))).setCell ⟨wo + 1, 5 * j + 3, none⟩ (.int .i64 (h' 3))).setCell ⟨wo + 1, 5 * j + 4, none⟩ (.int .i64 (h' 4))) c n f := fun h hbc =>
    ((((h.setOther ⟨wo + 1, 5 * j, none⟩ hbc _).setOther ⟨wo + 1, 5 * j + 1, none⟩ hbc _).setOther ⟨wo + 1, 5 * j + 2, none⟩ hbc _).setOther ⟨wo + 1, 5 * j + 3, none⟩ hbc _).setOther ⟨wo + 1, 5 * j + 4, none⟩ hbc _
  exact ⟨go rt (by omega), rs.set5at j (by omega) h', go rx n1, go z4 n2, go z5 n3,
    ((((bw.setCell (p := ⟨wo + 1, 5 * j, none⟩) hle _).setCell (p := ⟨wo + 1, 5 * j + 1, none⟩) hle _).setCell (p := ⟨wo + 1, 5 * j + 2, none⟩) hle _).setCell (p := ⟨wo + 1, 5 * j + 3, none⟩) hle _).setCell (p := ⟨wo + 1, 5 * j + 4, none⟩) hle _⟩

theorem sR9 {b c : Nat} {t s : Nat → Int} {w1 : World} (h : Hid (RowI w1 b 5 t ∧ RowI w1 c 20 s)) : w1.cell? ⟨b, 0, none⟩ = some (.int .i64 (t 0)) ∧ w1.cell? ⟨b, 1, none⟩ = some (.int .i64 (t 1)) ∧ w1.cell? ⟨b, 2, none⟩ = some (.int .i64 (t 2)) ∧ w1.cell? ⟨b, 3, none⟩ = some (.int .i64 (t 3)) ∧ w1.cell? ⟨b, 4, none⟩ = some (.int .i64 (t 4)) ∧
            w1.cell? ⟨c, 0, none⟩ = some (.int .i64 (s 0)) ∧ w1.cell? ⟨c, 1, none⟩ = some (.int .i64 (s 1)) ∧ w1.cell? ⟨c, 2, none⟩ = some (.int .i64 (s 2)) ∧ w1.cell? ⟨c, 3, none⟩ = some (.int .i64 (s 3)) ∧ w1.cell? ⟨c, 4, none⟩ = some (.int .i64 (s 4)) ∧
            w1.frozen? ⟨c, 0, none⟩ = false ∧ w1.frozen? ⟨c, 1, none⟩ = false ∧ w1.frozen? ⟨c, 2, none⟩ = false ∧ w1.frozen? ⟨c, 3, none⟩ = false ∧ w1.frozen? ⟨c, 4, none⟩ = false ∧ Hid (RowI w1 b 5 t ∧ RowI w1 c 20 s) := by
  obtain ⟨⟨t0, t1, t2, t3, t4⟩, _⟩ := h.out.1.five
  have a := h.out.2
  exact ⟨t0, t1, t2, t3, t4, (a 0 (by omega)).1, (a 1 (by omega)).1, (a 2 (by omega)).1, (a 3 (by omega)).1, (a 4 (by omega)).1, (a 0 (by omega)).2, (a 1 (by omega)).2, (a 2 (by omega)).2, (a 3 (by omega)).2, (a 4 (by omega)).2, h⟩
theorem sR9d {b c : Nat} {t s : Nat → Int} {w1 : World} (h : Hid (RowI w1 b 5 t ∧ RowI w1 c 20 s)) : Hid (RowI w1.drew b 5 t ∧ RowI w1.drew c 20 s) := Lib.hid h.out
theorem sR9k {b c : Nat} {t s : Nat → Int} {w1 w2 : World} {P1 P2 P3 P4 P5 P6 P7 P8 P9 P10 P11 P12 P13 P14 P15 : Prop} (hb : Below w1.heap.size w1 w2) (h : P1 ∧ P2 ∧ P3 ∧ P4 ∧ P5 ∧ P6 ∧ P7 ∧ P8 ∧ P9 ∧ P10 ∧ P11 ∧ P12 ∧ P13 ∧ P14 ∧ P15 ∧ Hid (RowI w1 b 5 t ∧ RowI w1 c 20 s)) : Hid (RowI w2 b 5 t ∧ RowI w2 c 20 s) :=
  have a := h.2.2.2.2.2.2.2.2.2.2.2.2.2.2.2.out
  Lib.hid ⟨a.1.keep hb, a.2.keep hb⟩

set_option maxRecDepth 100000 in
set_option maxHeartbeats 8000000 in
theorem refNear_any (r n : Int) (w : World) (r0 : 0 ≤ r) (rn : r ≤ n) (n1 : 1 ≤ n) (n2 : n ≤ 536870912) :
    Calls Try.prog 84 #[.int .i64 r, .int .i64 n] w fun z w' => ∃ c s, z = .returned (.tuple #[fxv c, fxv s]) ∧ (∃ X : Int, X = eighth120 * r / n ∧ Fx c (rS X 32 0 - rS X 32 2) ∧ Fx s (rS X 32 1 - rS X 32 3)) ∧ Below w.heap.size w w' := by
  go_enter Try.func84, Try.ntmps84
  go_wp2_with fail
  refine (eighth_any _).mono ?_
  rintro z w1 ⟨e, rfl, he, hb1⟩
  have HE := Lib.hid he
  have A4 := Lib.hid (((row5_new w (fun _ => 0) 58).alloc (.cells #[.int .i64 0, .int .i64 0, .int .i64 0, .int .i64 0, .int .i64 0] 58)).keep hb1)
  have A5 : Hid (RowI w1 (w.heap.size + 1) 5 (fun _ => 0)) := Lib.hid (RowI.keep hb1 (by
    have := row5_new (w.alloc (.cells #[.int .i64 0, .int .i64 0, .int .i64 0, .int .i64 0, .int .i64 0] 58)) (fun _ => 0) 58
    simpa using this))
  have B1 : Hid (Below w.heap.size w w1) := Lib.hid ((((Below.refl _ w).alloc (Nat.le_refl _) _).alloc (by simp) _).trans (hb1.mono (by simp; omega)))
  clear he hb1
  go_wp2_with fail
  have A6 := Lib.hid (row5_new w1 e 58)
  have A4n := Lib.hid (A4.out.alloc (.cells #[.int .i64 (e 0), .int .i64 (e 1), .int .i64 (e 2), .int .i64 (e 3), .int .i64 (e 4)] 58))
  have A5n := Lib.hid (A5.out.alloc (.cells #[.int .i64 (e 0), .int .i64 (e 1), .int .i64 (e 2), .int .i64 (e 3), .int .i64 (e 4)] 58))
  have B2 := Lib.hid (B1.out.alloc B1.out.size (.cells #[.int .i64 (e 0), .int .i64 (e 1), .int .i64 (e 2), .int .i64 (e 3), .int .i64 (e 4)] 58))
  have lw1 := A5.out.lt (by omega)
  clear A4 A5 B1
  have hbig : eighth120 * r < 2 ^ 150 := by
    have h1 : eighth120 * r ≤ eighth120 * 536870912 := Int.mul_le_mul_of_nonneg_left (by omega) (by decide)
    have h2 : eighth120 * 536870912 < 2 ^ 150 := by decide
    omega
  refine (often_fx e eighth120 r _ HE.out r0 (by omega) hbig).mono ?_
  rintro z w2 ⟨h, rfl, hh, hb2⟩
  have HH := Lib.hid hh
  have C4 := Lib.hid (A4n.out.keep hb2)
  have C5 := Lib.hid (A5n.out.keep hb2)
  have C6 := Lib.hid (A6.out.keep hb2)
  have B3 := Lib.hid (B2.out.trans (hb2.mono B2.out.size))
  clear hh hb2 A4n A5n A6 B2
  have l6 := C6.out.lt (by omega)
  obtain ⟨⟨p0, p1, p2, p3, p4⟩, q0, q1, q2, q3, q4⟩ := C6.out.five
  go_upto_region 3 with fail
  obtain ⟨W3, hW⟩ : ∃ W, W = (((((w2.setCell ⟨w1.heap.size, 0, none⟩ (.int .i64 (h 0))).setCell ⟨w1.heap.size, 1, none⟩ (.int .i64 (h 1))).setCell ⟨w1.heap.size, 2, none⟩ (.int .i64 (h 2))).setCell ⟨w1.heap.size, 3, none⟩ (.int .i64 (h 3))).setCell ⟨w1.heap.size, 4, none⟩ (.int .i64 (h 4))) := ⟨_, rfl⟩
  have D4 := Lib.hid (C4.out.other5 (show w1.heap.size ≠ w.heap.size by omega) h)
  have D5 := Lib.hid (C5.out.other5 (show w1.heap.size ≠ w.heap.size + 1 by omega) h)
  have D6 := Lib.hid (C6.out.set5 h)
  have B4 := Lib.hid (set5_below B3.out (show w.heap.size ≤ w1.heap.size by omega) (.int .i64 (h 0)) (.int .i64 (h 1)) (.int .i64 (h 2)) (.int .i64 (h 3)) (.int .i64 (h 4)))
  rw [← hW] at D4 D5 D6 B4 ⊢
  clear hW C4 C5 C6 B3 p0 p1 p2 p3 p4 q0 q1 q2 q3 q4 l6
  obtain ⟨⟨p0, p1, p2, p3, p4⟩, q0, q1, q2, q3, q4⟩ := D6.out.five
  go_wp2_with fail
  refine (over_any h (eighth120 * r) n _ HH.out n1 (by omega)).mono ?_
  rintro z w4 ⟨x, rfl, hx, hb4⟩
  obtain ⟨X, hX⟩ : ∃ X : Int, X = eighth120 * r / n := ⟨_, rfl⟩
  rw [← hX] at hx
  have HX := Lib.hid hx
  have HXX := Lib.hid hX
  have C4 := Lib.hid (D4.out.keep hb4)
  have C5 := Lib.hid (D5.out.keep hb4)
  have C6 := Lib.hid (D6.out.keep hb4)
  have B5 := Lib.hid (B4.out.trans (hb4.mono B4.out.size))
  clear hx hX hb4 D4 D5 D6 B4 p0 p1 p2 p3 p4 q0 q1 q2 q3 q4 HH HE
  have l6 := C6.out.lt (by omega)
  obtain ⟨⟨p0, p1, p2, p3, p4⟩, q0, q1, q2, q3, q4⟩ := C6.out.five
  go_upto_region 4 with fail
  obtain ⟨W5, hW⟩ : ∃ W, W = (((((w4.setCell ⟨w1.heap.size, 0, none⟩ (.int .i64 (x 0))).setCell ⟨w1.heap.size, 1, none⟩ (.int .i64 (x 1))).setCell ⟨w1.heap.size, 2, none⟩ (.int .i64 (x 2))).setCell ⟨w1.heap.size, 3, none⟩ (.int .i64 (x 3))).setCell ⟨w1.heap.size, 4, none⟩ (.int .i64 (x 4))) := ⟨_, rfl⟩
  have D4 := Lib.hid (C4.out.other5 (show w1.heap.size ≠ w.heap.size by omega) x)
  have D5 := Lib.hid (C5.out.other5 (show w1.heap.size ≠ w.heap.size + 1 by omega) x)
  have D6 := Lib.hid (C6.out.set5 x)
  have B6 := Lib.hid (set5_below B5.out (show w.heap.size ≤ w1.heap.size by omega) (.int .i64 (x 0)) (.int .i64 (x 1)) (.int .i64 (x 2)) (.int .i64 (x 3)) (.int .i64 (x 4)))
  rw [← hW] at D4 D5 D6 B6 ⊢
  clear hW C4 C5 C6 B5 p0 p1 p2 p3 p4 q0 q1 q2 q3 q4 l6
  have e5 : Hid (W5.heap.size = W5.heap.size) := Lib.hid rfl
  have T0 : Hid (RowI ((W5.alloc (.cells #[.int .i64 0, .int .i64 0, .int .i64 0, .int .i64 0, .int .i64 1] 58)).alloc (.cells #[.int .i64 0, .int .i64 0, .int .i64 0, .int .i64 0, .int .i64 0, .int .i64 0, .int .i64 0, .int .i64 0, .int .i64 0, .int .i64 0, .int .i64 0, .int .i64 0, .int .i64 0, .int .i64 0, .int .i64 0, .int .i64 0, .int .i64 0, .int .i64 0, .int .i64 0, .int .i64 0] 135)) W5.heap.size 5 (fun j => if j = 4 then 1 else 0)) := Lib.hid ((row5_new W5 (fun j => if j = 4 then 1 else 0) 58).alloc _)
  have S0 : Hid (RowI ((W5.alloc (.cells #[.int .i64 0, .int .i64 0, .int .i64 0, .int .i64 0, .int .i64 1] 58)).alloc (.cells #[.int .i64 0, .int .i64 0, .int .i64 0, .int .i64 0, .int .i64 0, .int .i64 0, .int .i64 0, .int .i64 0, .int .i64 0, .int .i64 0, .int .i64 0, .int .i64 0, .int .i64 0, .int .i64 0, .int .i64 0, .int .i64 0, .int .i64 0, .int .i64 0, .int .i64 0, .int .i64 0] 135)) (W5.heap.size + 1) 20 (fun _ => 0)) := Lib.hid (by
    have := row20_new (W5.alloc (.cells #[.int .i64 0, .int .i64 0, .int .i64 0, .int .i64 0, .int .i64 1] 58)) 135
    simpa using this)
  have G4 := Lib.hid ((D4.out.alloc (.cells #[.int .i64 0, .int .i64 0, .int .i64 0, .int .i64 0, .int .i64 1] 58)).alloc (.cells #[.int .i64 0, .int .i64 0, .int .i64 0, .int .i64 0, .int .i64 0, .int .i64 0, .int .i64 0, .int .i64 0, .int .i64 0, .int .i64 0, .int .i64 0, .int .i64 0, .int .i64 0, .int .i64 0, .int .i64 0, .int .i64 0, .int .i64 0, .int .i64 0, .int .i64 0, .int .i64 0] 135))
  have G5 := Lib.hid ((D5.out.alloc (.cells #[.int .i64 0, .int .i64 0, .int .i64 0, .int .i64 0, .int .i64 1] 58)).alloc (.cells #[.int .i64 0, .int .i64 0, .int .i64 0, .int .i64 0, .int .i64 0, .int .i64 0, .int .i64 0, .int .i64 0, .int .i64 0, .int .i64 0, .int .i64 0, .int .i64 0, .int .i64 0, .int .i64 0, .int .i64 0, .int .i64 0, .int .i64 0, .int .i64 0, .int .i64 0, .int .i64 0] 135))
  have G6 := Lib.hid ((D6.out.alloc (.cells #[.int .i64 0, .int .i64 0, .int .i64 0, .int .i64 0, .int .i64 1] 58)).alloc (.cells #[.int .i64 0, .int .i64 0, .int .i64 0, .int .i64 0, .int .i64 0, .int .i64 0, .int .i64 0, .int .i64 0, .int .i64 0, .int .i64 0, .int .i64 0, .int .i64 0, .int .i64 0, .int .i64 0, .int .i64 0, .int .i64 0, .int .i64 0, .int .i64 0, .int .i64 0, .int .i64 0] 135))
  have B7 := Lib.hid ((B6.out.alloc B6.out.size (.cells #[.int .i64 0, .int .i64 0, .int .i64 0, .int .i64 0, .int .i64 1] 58)).alloc (B6.out.alloc B6.out.size (.cells #[.int .i64 0, .int .i64 0, .int .i64 0, .int .i64 0, .int .i64 1] 58)).size (.cells #[.int .i64 0, .int .i64 0, .int .i64 0, .int .i64 0, .int .i64 0, .int .i64 0, .int .i64 0, .int .i64 0, .int .i64 0, .int .i64 0, .int .i64 0, .int .i64 0, .int .i64 0, .int .i64 0, .int .i64 0, .int .i64 0, .int .i64 0, .int .i64 0, .int .i64 0, .int .i64 0] 135))
  have FT : Hid (Fx (fun j => if j = 4 then 1 else 0) (rT X 0)) := Lib.hid ⟨by show _ = (1329227995784915872903807060280344576 : Int); decide, fun j hj => by split <;> omega⟩
  have FS : Hid (∀ j, j < 4 → Fx (fun o => (fun _ => (0 : Int)) (5 * j + o)) (rS X 0 j)) := Lib.hid (fun j hj => ⟨val_zero 5, fun o ho => by show 0 ≤ (0 : Int) ∧ (0 : Int) < 1073741824; omega⟩)
  have l5 := D5.out.lt (by omega)
  have l6 := D6.out.lt (by omega)
  have zb := B6.out.size
  clear D4 D5 D6 B6
  obtain ⟨wo, hwo⟩ : ∃ wo, wo = W5 := ⟨_, rfl⟩
  subst hwo
  go_wp2_with fail
  go_loopw [9] (fun i wr => ∃ (k : Nat) (t s : Nat → Int), k ≤ 32 ∧ i = .int .i64 k ∧ Hid (RowI wr wo.heap.size 5 t) ∧ Hid (Fx t (rT X k)) ∧ Hid (RowI wr (wo.heap.size + 1) 20 s) ∧ Hid (∀ j, j < 4 → Fx (fun o => s (5 * j + o)) (rS X k j)) ∧ Hid (RowI wr w1.heap.size 5 x) ∧ Hid (RowI wr w.heap.size 5 (fun _ => 0)) ∧ Hid (RowI wr (w.heap.size + 1) 5 (fun _ => 0)) ∧ Hid (Below w.heap.size w wr)) (fun i _ => 32 - (intOf i).toNat)
  case atStart => exact ⟨0, _, _, by omega, rfl, T0, FT, S0, FS, G6, G4, G5, B7⟩
  case round =>
    obtain ⟨k, t, s, hk, rfl, ht, ft, hs, fs, hx6, hz4, hz5, hb⟩ := hrel
    clear T0 FT S0 FS G6 G4 G5 B7
    by_cases hlt : k < 32
    · have hx0 := HX.out.nonneg.1
      have hX1 : X ≤ 1329227995784915872903807060280344576 := by
        rw [HXX.out]
        refine Int.le_trans (Int.ediv_le_ediv (by omega) (show eighth120 * r ≤ 1329227995784915872903807060280344576 * n from ?_)) ?_
        · exact Int.mul_le_mul (by decide) rn r0 (by decide)
        · rw [Int.mul_ediv_cancel _ (by omega)]; exact Int.le_refl _
      obtain ⟨j, hj⟩ : ∃ j, j = k % 4 := ⟨_, rfl⟩
      have hj4 : j < 4 := by omega
      have hmod : ((k : Int)).tmod 4 = (j : Int) := by rw [Int.tmod_eq_emod_of_nonneg (by omega)]; omega
      have tb := rT_bd hx0 hX1 k
      have sb := rS_bd hx0 hX1 j k
      have hkS : (k : Int) * 1329227995784915872903807060280344576 ≤ 32 * 1329227995784915872903807060280344576 := Int.mul_le_mul_of_nonneg_right (by omega) (by omega)
      have PL := Lib.hid (fun w => plus_fx (fun o => s (5 * j + o)) t (rS X k j) (rT X k) w (fs.out j hj4) ft.out (by
        have e : (2 : Int) ^ 150 = 1427247692705959881058285969449495136382746624 := by decide
        rw [e]; omega))
      obtain ⟨⟨t0, t1, t2, t3, t4⟩, f0, f1, f2, f3, f4⟩ := ht.out.five
      have HJ := Lib.hid hj
      have HM := Lib.hid hmod
      clear hj hmod
      have hb0 := hb.out.size
      have lt5 := ht.out.lt (by omega)
      have ls5 := hs.out.lt (by omega)
      have lx5 := hx6.out.lt (by omega)
      go_upto_region 9 with fail
      go_cut [] from 22 to 33 (fun wx => ∃ h', Fx h' (rS X k j + rT X k) ∧ NSum wo.heap.size w1.heap.size w.heap.size x t s h' j w wx)
      case first =>
        rcases (show j = 0 ∨ j = 1 ∨ j = 2 ∨ j = 3 by omega) with rfl | rfl | rfl | rfl
        · have hm0 : ((k : Int)).tmod 4 = 0 := HM.out
          obtain ⟨s0, g0⟩ := hs.out 0 (by omega)
          obtain ⟨s1, g1⟩ := hs.out 1 (by omega)
          obtain ⟨s2, g2⟩ := hs.out 2 (by omega)
          obtain ⟨s3, g3⟩ := hs.out 3 (by omega)
          obtain ⟨s4, g4⟩ := hs.out 4 (by omega)
          go_region_with (first
            | (go_at_call 103; refine (PL.out _).mono ?_; rintro z w7 ⟨h', rfl, hh', hb7⟩; have HB7 := Lib.hid hb7; have HS7 := Lib.hid (hs.out.keep hb7); have HH7 := Lib.hid hh'; obtain ⟨u0, v0⟩ := HS7.out 0 (by omega); obtain ⟨u1, v1⟩ := HS7.out 1 (by omega); obtain ⟨u2, v2⟩ := HS7.out 2 (by omega); obtain ⟨u3, v3⟩ := HS7.out 3 (by omega); obtain ⟨u4, v4⟩ := HS7.out 4 (by omega)))
          all_goals
            go_wp2_with fail
            go_meet
            exact ⟨h', HH7.out, nsum_end (show 5 * 0 + 5 ≤ 20 by omega) (ht.out.keep HB7.out) HS7.out (hx6.out.keep HB7.out) (hz4.out.keep HB7.out) (hz5.out.keep HB7.out) (hb.out.drew.trans (HB7.out.mono hb0)) (by omega) (by omega) (by omega) (by omega)⟩
        · have hm0 : ((k : Int)).tmod 4 = 1 := HM.out
          obtain ⟨s0, g0⟩ := hs.out 5 (by omega)
          obtain ⟨s1, g1⟩ := hs.out 6 (by omega)
          obtain ⟨s2, g2⟩ := hs.out 7 (by omega)
          obtain ⟨s3, g3⟩ := hs.out 8 (by omega)
          obtain ⟨s4, g4⟩ := hs.out 9 (by omega)
          go_region_with (first
            | (go_at_call 103; refine (PL.out _).mono ?_; rintro z w7 ⟨h', rfl, hh', hb7⟩; have HB7 := Lib.hid hb7; have HS7 := Lib.hid (hs.out.keep hb7); have HH7 := Lib.hid hh'; obtain ⟨u0, v0⟩ := HS7.out 5 (by omega); obtain ⟨u1, v1⟩ := HS7.out 6 (by omega); obtain ⟨u2, v2⟩ := HS7.out 7 (by omega); obtain ⟨u3, v3⟩ := HS7.out 8 (by omega); obtain ⟨u4, v4⟩ := HS7.out 9 (by omega)))
          all_goals
            go_wp2_with fail
            go_meet
            exact ⟨h', HH7.out, nsum_end (show 5 * 1 + 5 ≤ 20 by omega) (ht.out.keep HB7.out) HS7.out (hx6.out.keep HB7.out) (hz4.out.keep HB7.out) (hz5.out.keep HB7.out) (hb.out.drew.trans (HB7.out.mono hb0)) (by omega) (by omega) (by omega) (by omega)⟩
        · have hm0 : ((k : Int)).tmod 4 = 2 := HM.out
          obtain ⟨s0, g0⟩ := hs.out 10 (by omega)
          obtain ⟨s1, g1⟩ := hs.out 11 (by omega)
          obtain ⟨s2, g2⟩ := hs.out 12 (by omega)
          obtain ⟨s3, g3⟩ := hs.out 13 (by omega)
          obtain ⟨s4, g4⟩ := hs.out 14 (by omega)
          go_region_with (first
            | (go_at_call 103; refine (PL.out _).mono ?_; rintro z w7 ⟨h', rfl, hh', hb7⟩; have HB7 := Lib.hid hb7; have HS7 := Lib.hid (hs.out.keep hb7); have HH7 := Lib.hid hh'; obtain ⟨u0, v0⟩ := HS7.out 10 (by omega); obtain ⟨u1, v1⟩ := HS7.out 11 (by omega); obtain ⟨u2, v2⟩ := HS7.out 12 (by omega); obtain ⟨u3, v3⟩ := HS7.out 13 (by omega); obtain ⟨u4, v4⟩ := HS7.out 14 (by omega)))
          all_goals
            go_wp2_with fail
            go_meet
            exact ⟨h', HH7.out, nsum_end (show 5 * 2 + 5 ≤ 20 by omega) (ht.out.keep HB7.out) HS7.out (hx6.out.keep HB7.out) (hz4.out.keep HB7.out) (hz5.out.keep HB7.out) (hb.out.drew.trans (HB7.out.mono hb0)) (by omega) (by omega) (by omega) (by omega)⟩
        · have hm0 : ((k : Int)).tmod 4 = 3 := HM.out
          obtain ⟨s0, g0⟩ := hs.out 15 (by omega)
          obtain ⟨s1, g1⟩ := hs.out 16 (by omega)
          obtain ⟨s2, g2⟩ := hs.out 17 (by omega)
          obtain ⟨s3, g3⟩ := hs.out 18 (by omega)
          obtain ⟨s4, g4⟩ := hs.out 19 (by omega)
          go_region_with (first
            | (go_at_call 103; refine (PL.out _).mono ?_; rintro z w7 ⟨h', rfl, hh', hb7⟩; have HB7 := Lib.hid hb7; have HS7 := Lib.hid (hs.out.keep hb7); have HH7 := Lib.hid hh'; obtain ⟨u0, v0⟩ := HS7.out 15 (by omega); obtain ⟨u1, v1⟩ := HS7.out 16 (by omega); obtain ⟨u2, v2⟩ := HS7.out 17 (by omega); obtain ⟨u3, v3⟩ := HS7.out 18 (by omega); obtain ⟨u4, v4⟩ := HS7.out 19 (by omega)))
          all_goals
            go_wp2_with fail
            go_meet
            exact ⟨h', HH7.out, nsum_end (show 5 * 3 + 5 ≤ 20 by omega) (ht.out.keep HB7.out) HS7.out (hx6.out.keep HB7.out) (hz4.out.keep HB7.out) (hz5.out.keep HB7.out) (hb.out.drew.trans (HB7.out.mono hb0)) (by omega) (by omega) (by omega) (by omega)⟩
      case rest =>
        obtain ⟨h', hh', ⟨n1, n2, n3, n4, n5, n6⟩⟩ := hcut
        obtain ⟨s', hs'⟩ : ∃ s' : Nat → Int, s' = (fun i => if 5 * j ≤ i ∧ i < 5 * j + 5 then h' (i - 5 * j) else s i) := ⟨_, rfl⟩
        rw [← hs'] at n2
        have HFS : Hid (∀ i, i < 4 → Fx (fun o => s' (5 * i + o)) (rS X (k + 1) i)) := Lib.hid (by
          intro i hi
          show Fx _ (if k % 4 = i then rS X k i + rT X k else rS X k i)
          rw [← HJ.out, hs']
          by_cases hij : j = i
          · subst hij
            rw [if_pos rfl]
            refine hh'.congr (fun o ho => ?_)
            show h' o = if 5 * j ≤ 5 * j + o ∧ 5 * j + o < 5 * j + 5 then h' (5 * j + o - 5 * j) else s (5 * j + o)
            rw [if_pos (by omega)]
            congr 1; omega
          · rw [if_neg hij]
            refine (fs.out i hi).congr (fun o ho => ?_)
            show s (5 * i + o) = if 5 * j ≤ 5 * i + o ∧ 5 * i + o < 5 * j + 5 then h' (5 * i + o - 5 * j) else s (5 * i + o)
            rw [if_neg (by omega)])
        have N1 := Lib.hid n1
        have N2 := Lib.hid n2
        have N3 := Lib.hid n3
        have N4 := Lib.hid n4
        have N5 := Lib.hid n5
        have N6 := Lib.hid n6
        clear t0 t1 t2 t3 t4 f0 f1 f2 f3 f4 n1 n2 n3 n4 n5 n6 hs' hh' ht hs hx6 hz4 hz5 hb PL HM sb hkS
        obtain ⟨⟨t0, t1, t2, t3, t4⟩, f0, f1, f2, f3, f4⟩ := N1.out.five
        obtain ⟨⟨y0, y1, y2, y3, y4⟩, _⟩ := N3.out.five
        have TM := Lib.hid (fun w => times5_any t x (rT X k) X w ft.out HX.out (by
          have e : (2 : Int) ^ 125 = 42535295865117307932921825928971026432 := by decide
          rw [e]; omega) (by
          have e : (2 : Int) ^ 125 = 42535295865117307932921825928971026432 := by decide
          rw [e]; omega))
        apply_assumption
        go_wp2_with fail
        refine (TM.out _).mono ?_
        rintro z w7 ⟨h7, rfl, hh7, hb7⟩
        have H7 := Lib.hid hh7
        have M1 := Lib.hid (N1.out.keep hb7)
        have M2 := Lib.hid (N2.out.keep hb7)
        have M3 := Lib.hid (N3.out.keep hb7)
        have M4 := Lib.hid (N4.out.keep hb7)
        have M5 := Lib.hid (N5.out.keep hb7)
        have M6 := Lib.hid (N6.out.trans (hb7.mono N6.out.size))
        clear t0 t1 t2 t3 t4 f0 f1 f2 f3 f4 y0 y1 y2 y3 y4 hh7 hb7 N1 N2 N3 N4 N5 N6 TM
        obtain ⟨⟨t0, t1, t2, t3, t4⟩, f0, f1, f2, f3, f4⟩ := M1.out.five
        go_upto_region 11 with fail
        obtain ⟨W8, hW⟩ : ∃ W, W = (((((w7.setCell ⟨wo.heap.size, 0, none⟩ (.int .i64 (h7 0))).setCell ⟨wo.heap.size, 1, none⟩ (.int .i64 (h7 1))).setCell ⟨wo.heap.size, 2, none⟩ (.int .i64 (h7 2))).setCell ⟨wo.heap.size, 3, none⟩ (.int .i64 (h7 3))).setCell ⟨wo.heap.size, 4, none⟩ (.int .i64 (h7 4))) := ⟨_, rfl⟩
        have P1 := Lib.hid (M1.out.set5 h7)
        have P2 := Lib.hid (M2.out.other5 (show wo.heap.size ≠ wo.heap.size + 1 by omega) h7)
        have P3 := Lib.hid (M3.out.other5 (show wo.heap.size ≠ w1.heap.size by omega) h7)
        have P4 := Lib.hid (M4.out.other5 (show wo.heap.size ≠ w.heap.size by omega) h7)
        have P5 := Lib.hid (M5.out.other5 (show wo.heap.size ≠ w.heap.size + 1 by omega) h7)
        have P6 := Lib.hid (set5_below M6.out (show w.heap.size ≤ wo.heap.size by omega) (.int .i64 (h7 0)) (.int .i64 (h7 1)) (.int .i64 (h7 2)) (.int .i64 (h7 3)) (.int .i64 (h7 4)))
        rw [← hW] at P1 P2 P3 P4 P5 P6 ⊢
        clear hW t0 t1 t2 t3 t4 f0 f1 f2 f3 f4 M1 M2 M3 M4 M5 M6
        obtain ⟨⟨t0, t1, t2, t3, t4⟩, f0, f1, f2, f3, f4⟩ := P1.out.five
        have OV := Lib.hid (fun w => over_any h7 _ ((k : Int) + 1) w H7.out (by omega) (by omega))
        go_wp2_with fail
        refine (OV.out _).mono ?_
        rintro z w9 ⟨h9, rfl, hh9, hb9⟩
        have H9 : Hid (Fx h9 (rT X (k + 1))) := Lib.hid hh9
        have M1 := Lib.hid (P1.out.keep hb9)
        have M2 := Lib.hid (P2.out.keep hb9)
        have M3 := Lib.hid (P3.out.keep hb9)
        have M4 := Lib.hid (P4.out.keep hb9)
        have M5 := Lib.hid (P5.out.keep hb9)
        have M6 := Lib.hid (P6.out.trans (hb9.mono P6.out.size))
        clear t0 t1 t2 t3 t4 f0 f1 f2 f3 f4 hh9 hb9 P1 P2 P3 P4 P5 P6 OV
        obtain ⟨⟨t0, t1, t2, t3, t4⟩, f0, f1, f2, f3, f4⟩ := M1.out.five
        have Q1 := Lib.hid (M1.out.set5 h9)
        have Q2 := Lib.hid (M2.out.other5 (show wo.heap.size ≠ wo.heap.size + 1 by omega) h9)
        have Q3 := Lib.hid (M3.out.other5 (show wo.heap.size ≠ w1.heap.size by omega) h9)
        have Q4 := Lib.hid (M4.out.other5 (show wo.heap.size ≠ w.heap.size by omega) h9)
        have Q5 := Lib.hid (M5.out.other5 (show wo.heap.size ≠ w.heap.size + 1 by omega) h9)
        have Q6 := Lib.hid (set5_below M6.out (show w.heap.size ≤ wo.heap.size by omega) (.int .i64 (h9 0)) (.int .i64 (h9 1)) (.int .i64 (h9 2)) (.int .i64 (h9 3)) (.int .i64 (h9 4)))
        go_wp2_with fail
        go_roundw
        case rel =>
          exact ⟨k + 1, _, _, by omega, by go_num, Q1, H9, Q2, HFS, Q3, Q4, Q5, Q6⟩
        case measure => simp [intOf]; omega
    · obtain rfl : k = 32 := by omega
      have hx0 := HX.out.nonneg.1
      have hX1 : X ≤ 1329227995784915872903807060280344576 := by
        rw [HXX.out]
        refine Int.le_trans (Int.ediv_le_ediv (by omega) (show eighth120 * r ≤ 1329227995784915872903807060280344576 * n from ?_)) ?_
        · exact Int.mul_le_mul (by decide) rn r0 (by decide)
        · rw [Int.mul_ediv_cancel _ (by omega)]; exact Int.le_refl _
      have hb0 := hb.out.size
      have lt5 := ht.out.lt (by omega)
      have ls5 := hs.out.lt (by omega)
      have PC := Lib.hid (fun w => minus_fx (fun o => s (5 * 0 + o)) (fun o => s (5 * 2 + o)) _ _ w (fs.out 0 (by omega)) (fs.out 2 (by omega)) (rS_le hx0 hX1 0 (by omega) 8))
      have PS := Lib.hid (fun w => minus_fx (fun o => s (5 * 1 + o)) (fun o => s (5 * 3 + o)) _ _ w (fs.out 1 (by omega)) (fs.out 3 (by omega)) (rS_le hx0 hX1 1 (by omega) 8))
      obtain ⟨s0, _⟩ := hs.out 0 (by omega)
      obtain ⟨s1, _⟩ := hs.out 1 (by omega)
      obtain ⟨s2, _⟩ := hs.out 2 (by omega)
      obtain ⟨s3, _⟩ := hs.out 3 (by omega)
      obtain ⟨s4, _⟩ := hs.out 4 (by omega)
      obtain ⟨s5, _⟩ := hs.out 5 (by omega)
      obtain ⟨s6, _⟩ := hs.out 6 (by omega)
      obtain ⟨s7, _⟩ := hs.out 7 (by omega)
      obtain ⟨s8, _⟩ := hs.out 8 (by omega)
      obtain ⟨s9, _⟩ := hs.out 9 (by omega)
      obtain ⟨s10, _⟩ := hs.out 10 (by omega)
      obtain ⟨s11, _⟩ := hs.out 11 (by omega)
      obtain ⟨s12, _⟩ := hs.out 12 (by omega)
      obtain ⟨s13, _⟩ := hs.out 13 (by omega)
      obtain ⟨s14, _⟩ := hs.out 14 (by omega)
      obtain ⟨s15, _⟩ := hs.out 15 (by omega)
      obtain ⟨s16, _⟩ := hs.out 16 (by omega)
      obtain ⟨s17, _⟩ := hs.out 17 (by omega)
      obtain ⟨s18, _⟩ := hs.out 18 (by omega)
      obtain ⟨s19, _⟩ := hs.out 19 (by omega)
      go_wp2_with fail
      refine (PC.out _).mono ?_
      rintro z w2 ⟨c, rfl, hc, hb2⟩
      have H2 := Lib.hid hc
      have S2 := Lib.hid ((hs.out.keep hb2).alloc (.cells #[.int .i64 (c 0), .int .i64 (c 1), .int .i64 (c 2), .int .i64 (c 3), .int .i64 (c 4)] 58))
      have Z2 := Lib.hid ((hz4.out.keep hb2).alloc (.cells #[.int .i64 (c 0), .int .i64 (c 1), .int .i64 (c 2), .int .i64 (c 3), .int .i64 (c 4)] 58))
      have Y2 := Lib.hid ((hz5.out.keep hb2).alloc (.cells #[.int .i64 (c 0), .int .i64 (c 1), .int .i64 (c 2), .int .i64 (c 3), .int .i64 (c 4)] 58))
      have C2 := Lib.hid (row5_new w2 c 58)
      have B2 := Lib.hid ((hb.out.trans (hb2.mono hb0)).alloc (hb.out.trans (hb2.mono hb0)).size (.cells #[.int .i64 (c 0), .int .i64 (c 1), .int .i64 (c 2), .int .i64 (c 3), .int .i64 (c 4)] 58))
      have L2 : w.heap.size + 1 < w2.heap.size := by have := hb2.size; omega
      clear hc hb2 hs hz4 hz5 hb ht hx6
      clear s0 s1 s2 s3 s4 s5 s6 s7 s8 s9 s10 s11 s12 s13 s14 s15 s16 s17 s18 s19
      obtain ⟨s5, _⟩ := S2.out 5 (by omega)
      obtain ⟨s6, _⟩ := S2.out 6 (by omega)
      obtain ⟨s7, _⟩ := S2.out 7 (by omega)
      obtain ⟨s8, _⟩ := S2.out 8 (by omega)
      obtain ⟨s9, _⟩ := S2.out 9 (by omega)
      obtain ⟨s15, _⟩ := S2.out 15 (by omega)
      obtain ⟨s16, _⟩ := S2.out 16 (by omega)
      obtain ⟨s17, _⟩ := S2.out 17 (by omega)
      obtain ⟨s18, _⟩ := S2.out 18 (by omega)
      obtain ⟨s19, _⟩ := S2.out 19 (by omega)
      go_wp2_with fail
      refine (PS.out _).mono ?_
      rintro z w3 ⟨d, rfl, hd, hb3⟩
      have H3 := Lib.hid hd
      have Z3 := Lib.hid ((Z2.out.keep hb3).alloc (.cells #[.int .i64 (d 0), .int .i64 (d 1), .int .i64 (d 2), .int .i64 (d 3), .int .i64 (d 4)] 58))
      have Y3 := Lib.hid ((Y2.out.keep hb3).alloc (.cells #[.int .i64 (d 0), .int .i64 (d 1), .int .i64 (d 2), .int .i64 (d 3), .int .i64 (d 4)] 58))
      have C3 := Lib.hid ((C2.out.keep hb3).alloc (.cells #[.int .i64 (d 0), .int .i64 (d 1), .int .i64 (d 2), .int .i64 (d 3), .int .i64 (d 4)] 58))
      have D3 := Lib.hid (row5_new w3 d 58)
      have b3 := B2.out.trans (hb3.mono B2.out.size)
      have B3 := Lib.hid (b3.alloc b3.size (.cells #[.int .i64 (d 0), .int .i64 (d 1), .int .i64 (d 2), .int .i64 (d 3), .int .i64 (d 4)] 58))
      have L3 : w2.heap.size < w3.heap.size := by have := hb3.size; simp at this; omega
      clear s5 s6 s7 s8 s9 s15 s16 s17 s18 s19
      clear hd hb3 b3 S2 Z2 Y2 C2 B2 PC PS
      obtain ⟨⟨z0, z1, z2, z3, z4⟩, y0, y1, y2, y3, y4⟩ := Z3.out.five
      obtain ⟨⟨a0, a1, a2, a3, a4⟩, b0, b1, b2, b3, b4⟩ := Y3.out.five
      obtain ⟨⟨c0, c1, c2, c3, c4⟩, _⟩ := C3.out.five
      obtain ⟨⟨d0, d1, d2, d3, d4⟩, _⟩ := D3.out.five
      go_upto_region 14 with fail
      go_region
      all_goals
        go_wp2_with fail
        refine bodyPost_ret (v := .tuple #[fxv c, fxv d]) (by simp [results, Try.results84, go_sem, z0, z1, z2, z3, z4, a0, a1, a2, a3, a4, c0, c1, c2, c3, c4, d0, d1, d2, d3, d4]) rfl ⟨c, d, rfl, ⟨X, HXX.out, H2.out, H3.out⟩, ?_⟩
        exact (set5_below (set5_below B3.out (Nat.le_refl _) _ _ _ _ _) (by omega) _ _ _ _ _).drew

end Go.Proofs.Ytnpkblidlmkagaa

/- The walk of the document's Turn. -/
set_option linter.unusedSimpArgs false
set_option linter.unusedVariables false
namespace Go.Proofs.Ytnpkblidlmkagaa
open Go.RowKit Fl

/-- What the document's Near says. -/
def dX (r n : Int) : Int := eighth120 * r / n
def dC (r n : Int) : Int := rS (dX r n) 32 0 - rS (dX r n) 32 2
def dS (r n : Int) : Int := rS (dX r n) 32 1 - rS (dX r n) 32 3
def docC (k n : Int) : Int := if octO k n = 1 ∨ octO k n = 2 ∨ octO k n = 5 ∨ octO k n = 6 then dS (octR k n) n else dC (octR k n) n
def docS (k n : Int) : Int := if octO k n = 1 ∨ octO k n = 2 ∨ octO k n = 5 ∨ octO k n = 6 then dC (octR k n) n else dS (octR k n) n
def docA (k n : Int) : Int := if 2 ≤ octO k n ∧ octO k n ≤ 5 then -1 else 1
def docB (k n : Int) : Int := if 4 ≤ octO k n then -1 else 1

theorem octR_bound (k n : Int) (n1 : 1 ≤ n) : 0 ≤ octR k n ∧ octR k n ≤ n := by
  obtain ⟨s1, s2, s3, s4⟩ := octO_spec k n (by omega)
  unfold octR
  rw [Int.add_mul, Int.one_mul]
  split <;> omega

set_option maxRecDepth 100000 in
set_option maxHeartbeats 8000000 in
theorem refTurn_any (k n : Int) (w : World) (n1 : 1 ≤ n) (n2 : n ≤ 536870912) :
    Calls Try.prog 48 #[.int .i64 k, .int .i64 n] w fun z w' => ∃ f g, z = .returned (.tuple #[fxv f, .int .i64 (docA k n), fxv g, .int .i64 (docB k n)]) ∧ Fx f (docC k n) ∧ Fx g (docS k n) ∧ Below w.heap.size w w' := by
  have c0 := fun w => refOctant_any k n w n1 (by omega)
  obtain ⟨r1, r2⟩ := octR_bound k n n1
  obtain ⟨o1, o2, _, _⟩ := octO_spec k n (by omega)
  have hA : docA k n = if 2 ≤ octO k n ∧ octO k n ≤ 5 then -1 else 1 := rfl
  have hB : docB k n = if 4 ≤ octO k n then -1 else 1 := rfl
  have hC : docC k n = if octO k n = 1 ∨ octO k n = 2 ∨ octO k n = 5 ∨ octO k n = 6 then dS (octR k n) n else dC (octR k n) n := rfl
  have hS : docS k n = if octO k n = 1 ∨ octO k n = 2 ∨ octO k n = 5 ∨ octO k n = 6 then dC (octR k n) n else dS (octR k n) n := rfl
  obtain ⟨o, ho⟩ : ∃ o, o = octO k n := ⟨_, rfl⟩
  obtain ⟨r, hr⟩ : ∃ r, r = octR k n := ⟨_, rfl⟩
  obtain ⟨A, eA⟩ : ∃ A, A = docA k n := ⟨_, rfl⟩
  obtain ⟨B, eB⟩ : ∃ B, B = docB k n := ⟨_, rfl⟩
  obtain ⟨C, eC⟩ : ∃ C, C = docC k n := ⟨_, rfl⟩
  obtain ⟨S, eS⟩ : ∃ S, S = docS k n := ⟨_, rfl⟩
  rw [← ho, ← hr] at c0
  rw [← eA, ← eB, ← eC, ← eS]
  rw [← eA, ← ho] at hA
  rw [← eB, ← ho] at hB
  rw [← eC, ← ho, ← hr] at hC
  rw [← eS, ← ho, ← hr] at hS
  rw [← hr] at r1 r2
  rw [← ho] at o1 o2
  have HOCT := Lib.hid c0
  have HNEAR := Lib.hid (fun w => refNear_any r n w r1 r2 n1 n2)
  have HA := Lib.hid hA
  have HB := Lib.hid hB
  have HC := Lib.hid hC
  have HS := Lib.hid hS
  clear c0 hA hB hC hS ho hr eA eB eC eS
  go_enter Try.func48, Try.ntmps48
  go_wp2_with fail
  refine (HOCT.out _).mono ?_
  rintro z w' ⟨rfl, rfl⟩
  clear HOCT
  have A4 := Lib.hid ((row5_new w (fun _ => 0) 58).alloc (.cells #[.int .i64 0, .int .i64 0, .int .i64 0, .int .i64 0, .int .i64 0] 58))
  have A5 : Hid (RowI ((w.alloc (.cells #[.int .i64 0, .int .i64 0, .int .i64 0, .int .i64 0, .int .i64 0] 58)).alloc (.cells #[.int .i64 0, .int .i64 0, .int .i64 0, .int .i64 0, .int .i64 0] 58)) (w.heap.size + 1) 5 (fun _ => 0)) := Lib.hid (by
    have := row5_new (w.alloc (.cells #[.int .i64 0, .int .i64 0, .int .i64 0, .int .i64 0, .int .i64 0] 58)) (fun _ => 0) 58
    simpa using this)
  have B1 := Lib.hid (((Below.refl _ w).alloc (Nat.le_refl _) (.cells #[.int .i64 0, .int .i64 0, .int .i64 0, .int .i64 0, .int .i64 0] 58)).alloc (by simp) (.cells #[.int .i64 0, .int .i64 0, .int .i64 0, .int .i64 0, .int .i64 0] 58))
  go_wp2_with fail
  refine (HNEAR.out _).mono ?_
  rintro z w1 ⟨c, s, rfl, ⟨X, hX, hc, hs⟩, hb1⟩
  have HX := Lib.hid hX
  have FC : Hid (Fx c (dC r n)) := Lib.hid (by unfold dC dX; rw [← hX]; exact hc)
  have FS : Hid (Fx s (dS r n)) := Lib.hid (by unfold dS dX; rw [← hX]; exact hs)
  have C4 := Lib.hid (((A4.out.keep hb1).alloc (.cells #[.int .i64 (c 0), .int .i64 (c 1), .int .i64 (c 2), .int .i64 (c 3), .int .i64 (c 4)] 58)).alloc (.cells #[.int .i64 (s 0), .int .i64 (s 1), .int .i64 (s 2), .int .i64 (s 3), .int .i64 (s 4)] 58))
  have C5 := Lib.hid (((A5.out.keep hb1).alloc (.cells #[.int .i64 (c 0), .int .i64 (c 1), .int .i64 (c 2), .int .i64 (c 3), .int .i64 (c 4)] 58)).alloc (.cells #[.int .i64 (s 0), .int .i64 (s 1), .int .i64 (s 2), .int .i64 (s 3), .int .i64 (s 4)] 58))
  have C10 := Lib.hid ((row5_new w1 c 58).alloc (.cells #[.int .i64 (s 0), .int .i64 (s 1), .int .i64 (s 2), .int .i64 (s 3), .int .i64 (s 4)] 58))
  have C11 : Hid (RowI ((w1.alloc (.cells #[.int .i64 (c 0), .int .i64 (c 1), .int .i64 (c 2), .int .i64 (c 3), .int .i64 (c 4)] 58)).alloc (.cells #[.int .i64 (s 0), .int .i64 (s 1), .int .i64 (s 2), .int .i64 (s 3), .int .i64 (s 4)] 58)) (w1.heap.size + 1) 5 s) := Lib.hid (by
    have := row5_new (w1.alloc (.cells #[.int .i64 (c 0), .int .i64 (c 1), .int .i64 (c 2), .int .i64 (c 3), .int .i64 (c 4)] 58)) s 58
    simpa using this)
  have b1 := B1.out.trans (hb1.mono B1.out.size)
  have B2 := Lib.hid ((b1.alloc b1.size (.cells #[.int .i64 (c 0), .int .i64 (c 1), .int .i64 (c 2), .int .i64 (c 3), .int .i64 (c 4)] 58)).alloc (b1.alloc b1.size (.cells #[.int .i64 (c 0), .int .i64 (c 1), .int .i64 (c 2), .int .i64 (c 3), .int .i64 (c 4)] 58)).size (.cells #[.int .i64 (s 0), .int .i64 (s 1), .int .i64 (s 2), .int .i64 (s 3), .int .i64 (s 4)] 58))
  have L1 := (A5.out.keep hb1).lt (by omega)
  clear hX hc hs hb1 b1 A4 A5 B1 HNEAR HX
  go_upto_region 3 with fail
  obtain ⟨W2, hW⟩ : ∃ W, W = (w1.alloc (.cells #[.int .i64 (c 0), .int .i64 (c 1), .int .i64 (c 2), .int .i64 (c 3), .int .i64 (c 4)] 58)).alloc (.cells #[.int .i64 (s 0), .int .i64 (s 1), .int .i64 (s 2), .int .i64 (s 3), .int .i64 (s 4)] 58) := ⟨_, rfl⟩
  rw [← hW] at C4 C5 C10 C11 B2 ⊢
  clear hW
  have ret : ∀ (f g : Nat → Int) (V : World), Fx f C → Fx g S → RowI V w.heap.size 5 (fun _ => 0) → RowI V (w.heap.size + 1) 5 (fun _ => 0) → Below w.heap.size w V → True := fun _ _ _ _ _ _ _ _ => trivial
  clear ret
  rcases (show o = 0 ∨ o = 1 ∨ o = 2 ∨ o = 3 ∨ o = 4 ∨ o = 5 ∨ o = 6 ∨ o = 7 by omega) with rfl | rfl | rfl | rfl | rfl | rfl | rfl | rfl
  · have eA : A = 1 := by rw [HA.out]; simp
    have eB : B = 1 := by rw [HB.out]; simp
    have eC : C = dC r n := by rw [HC.out]; simp
    have eS : S = dS r n := by rw [HS.out]; simp
    have RC : Hid (Fx c C) := Lib.hid (by rw [eC]; exact FC.out)
    have RS : Hid (Fx s S) := Lib.hid (by rw [eS]; exact FS.out)
    subst eA eB
    clear HA HB HC HS eC eS
    obtain ⟨⟨p0, p1, p2, p3, p4⟩, q0, q1, q2, q3, q4⟩ := C10.out.five
    obtain ⟨⟨u0, u1, u2, u3, u4⟩, v0, v1, v2, v3, v4⟩ := C11.out.five
    have DB := B2
    obtain ⟨⟨z0, z1, z2, z3, z4⟩, y0, y1, y2, y3, y4⟩ := C4.out.five
    obtain ⟨⟨a0, a1, a2, a3, a4⟩, b0, b1, b2, b3, b4⟩ := C5.out.five
    go_upto_region 11 with fail
    go_region
    all_goals
      go_wp2_with fail
      refine bodyPost_ret (v := .tuple #[fxv c, .int .i64 (1), fxv s, .int .i64 (1)]) (by simp [results, Try.results48, go_sem, z0, z1, z2, z3, z4, a0, a1, a2, a3, a4]) rfl ⟨c, s, rfl, RC.out, RS.out, ?_⟩
      first
      | exact (set5_below (set5_below DB.out (Nat.le_refl _) _ _ _ _ _) (by omega) _ _ _ _ _).drew
      | exact set5_below (set5_below DB.out.drew (Nat.le_refl _) _ _ _ _ _) (by omega) _ _ _ _ _
  · have eA : A = 1 := by rw [HA.out]; simp
    have eB : B = 1 := by rw [HB.out]; simp
    have eC : C = dS r n := by rw [HC.out]; simp
    have eS : S = dC r n := by rw [HS.out]; simp
    have RC : Hid (Fx s C) := Lib.hid (by rw [eC]; exact FS.out)
    have RS : Hid (Fx c S) := Lib.hid (by rw [eS]; exact FC.out)
    subst eA eB
    clear HA HB HC HS eC eS
    obtain ⟨⟨p0, p1, p2, p3, p4⟩, q0, q1, q2, q3, q4⟩ := C10.out.five
    obtain ⟨⟨u0, u1, u2, u3, u4⟩, v0, v1, v2, v3, v4⟩ := C11.out.five
    go_upto_region 5 with fail
    obtain ⟨W3, hW⟩ : ∃ W, W = ((((((((((W2.setCell ⟨w1.heap.size, 0, none⟩ (.int .i64 (s 0))).setCell ⟨w1.heap.size, 1, none⟩ (.int .i64 (s 1))).setCell ⟨w1.heap.size, 2, none⟩ (.int .i64 (s 2))).setCell ⟨w1.heap.size, 3, none⟩ (.int .i64 (s 3))).setCell ⟨w1.heap.size, 4, none⟩ (.int .i64 (s 4))).setCell ⟨(w1.heap.size + 1), 0, none⟩ (.int .i64 (c 0))).setCell ⟨(w1.heap.size + 1), 1, none⟩ (.int .i64 (c 1))).setCell ⟨(w1.heap.size + 1), 2, none⟩ (.int .i64 (c 2))).setCell ⟨(w1.heap.size + 1), 3, none⟩ (.int .i64 (c 3))).setCell ⟨(w1.heap.size + 1), 4, none⟩ (.int .i64 (c 4))) := ⟨_, rfl⟩
    have D10 := Lib.hid ((C10.out.set5 s).other5 (show w1.heap.size + 1 ≠ w1.heap.size by omega) c)
    have D11 := Lib.hid ((C11.out.other5 (show w1.heap.size ≠ w1.heap.size + 1 by omega) s).set5 c)
    have D4 := Lib.hid ((C4.out.other5 (show w1.heap.size ≠ w.heap.size by omega) s).other5 (show w1.heap.size + 1 ≠ w.heap.size by omega) c)
    have D5 := Lib.hid ((C5.out.other5 (show w1.heap.size ≠ w.heap.size + 1 by omega) s).other5 (show w1.heap.size + 1 ≠ w.heap.size + 1 by omega) c)
    have DB := Lib.hid (set5_below (set5_below B2.out (show w.heap.size ≤ w1.heap.size by omega) (.int .i64 (s 0)) (.int .i64 (s 1)) (.int .i64 (s 2)) (.int .i64 (s 3)) (.int .i64 (s 4))) (show w.heap.size ≤ w1.heap.size + 1 by omega) (.int .i64 (c 0)) (.int .i64 (c 1)) (.int .i64 (c 2)) (.int .i64 (c 3)) (.int .i64 (c 4)))
    rw [← hW] at D10 D11 D4 D5 DB ⊢
    clear hW p0 p1 p2 p3 p4 q0 q1 q2 q3 q4 u0 u1 u2 u3 u4 v0 v1 v2 v3 v4 C10 C11 C4 C5 B2
    obtain ⟨⟨p0, p1, p2, p3, p4⟩, q0, q1, q2, q3, q4⟩ := D10.out.five
    obtain ⟨⟨u0, u1, u2, u3, u4⟩, v0, v1, v2, v3, v4⟩ := D11.out.five
    obtain ⟨⟨z0, z1, z2, z3, z4⟩, y0, y1, y2, y3, y4⟩ := D4.out.five
    obtain ⟨⟨a0, a1, a2, a3, a4⟩, b0, b1, b2, b3, b4⟩ := D5.out.five
    go_upto_region 11 with fail
    go_region
    all_goals
      go_wp2_with fail
      refine bodyPost_ret (v := .tuple #[fxv s, .int .i64 (1), fxv c, .int .i64 (1)]) (by simp [results, Try.results48, go_sem, z0, z1, z2, z3, z4, a0, a1, a2, a3, a4]) rfl ⟨s, c, rfl, RC.out, RS.out, ?_⟩
      first
      | exact (set5_below (set5_below DB.out (Nat.le_refl _) _ _ _ _ _) (by omega) _ _ _ _ _).drew
      | exact set5_below (set5_below DB.out.drew (Nat.le_refl _) _ _ _ _ _) (by omega) _ _ _ _ _
  · have eA : A = -1 := by rw [HA.out]; simp
    have eB : B = 1 := by rw [HB.out]; simp
    have eC : C = dS r n := by rw [HC.out]; simp
    have eS : S = dC r n := by rw [HS.out]; simp
    have RC : Hid (Fx s C) := Lib.hid (by rw [eC]; exact FS.out)
    have RS : Hid (Fx c S) := Lib.hid (by rw [eS]; exact FC.out)
    subst eA eB
    clear HA HB HC HS eC eS
    obtain ⟨⟨p0, p1, p2, p3, p4⟩, q0, q1, q2, q3, q4⟩ := C10.out.five
    obtain ⟨⟨u0, u1, u2, u3, u4⟩, v0, v1, v2, v3, v4⟩ := C11.out.five
    go_upto_region 5 with fail
    obtain ⟨W3, hW⟩ : ∃ W, W = ((((((((((W2.setCell ⟨w1.heap.size, 0, none⟩ (.int .i64 (s 0))).setCell ⟨w1.heap.size, 1, none⟩ (.int .i64 (s 1))).setCell ⟨w1.heap.size, 2, none⟩ (.int .i64 (s 2))).setCell ⟨w1.heap.size, 3, none⟩ (.int .i64 (s 3))).setCell ⟨w1.heap.size, 4, none⟩ (.int .i64 (s 4))).setCell ⟨(w1.heap.size + 1), 0, none⟩ (.int .i64 (c 0))).setCell ⟨(w1.heap.size + 1), 1, none⟩ (.int .i64 (c 1))).setCell ⟨(w1.heap.size + 1), 2, none⟩ (.int .i64 (c 2))).setCell ⟨(w1.heap.size + 1), 3, none⟩ (.int .i64 (c 3))).setCell ⟨(w1.heap.size + 1), 4, none⟩ (.int .i64 (c 4))) := ⟨_, rfl⟩
    have D10 := Lib.hid ((C10.out.set5 s).other5 (show w1.heap.size + 1 ≠ w1.heap.size by omega) c)
    have D11 := Lib.hid ((C11.out.other5 (show w1.heap.size ≠ w1.heap.size + 1 by omega) s).set5 c)
    have D4 := Lib.hid ((C4.out.other5 (show w1.heap.size ≠ w.heap.size by omega) s).other5 (show w1.heap.size + 1 ≠ w.heap.size by omega) c)
    have D5 := Lib.hid ((C5.out.other5 (show w1.heap.size ≠ w.heap.size + 1 by omega) s).other5 (show w1.heap.size + 1 ≠ w.heap.size + 1 by omega) c)
    have DB := Lib.hid (set5_below (set5_below B2.out (show w.heap.size ≤ w1.heap.size by omega) (.int .i64 (s 0)) (.int .i64 (s 1)) (.int .i64 (s 2)) (.int .i64 (s 3)) (.int .i64 (s 4))) (show w.heap.size ≤ w1.heap.size + 1 by omega) (.int .i64 (c 0)) (.int .i64 (c 1)) (.int .i64 (c 2)) (.int .i64 (c 3)) (.int .i64 (c 4)))
    rw [← hW] at D10 D11 D4 D5 DB ⊢
    clear hW p0 p1 p2 p3 p4 q0 q1 q2 q3 q4 u0 u1 u2 u3 u4 v0 v1 v2 v3 v4 C10 C11 C4 C5 B2
    obtain ⟨⟨p0, p1, p2, p3, p4⟩, q0, q1, q2, q3, q4⟩ := D10.out.five
    obtain ⟨⟨u0, u1, u2, u3, u4⟩, v0, v1, v2, v3, v4⟩ := D11.out.five
    obtain ⟨⟨z0, z1, z2, z3, z4⟩, y0, y1, y2, y3, y4⟩ := D4.out.five
    obtain ⟨⟨a0, a1, a2, a3, a4⟩, b0, b1, b2, b3, b4⟩ := D5.out.five
    go_upto_region 11 with fail
    go_region
    all_goals
      go_wp2_with fail
      refine bodyPost_ret (v := .tuple #[fxv s, .int .i64 (-1), fxv c, .int .i64 (1)]) (by simp [results, Try.results48, go_sem, z0, z1, z2, z3, z4, a0, a1, a2, a3, a4]) rfl ⟨s, c, rfl, RC.out, RS.out, ?_⟩
      first
      | exact (set5_below (set5_below DB.out (Nat.le_refl _) _ _ _ _ _) (by omega) _ _ _ _ _).drew
      | exact set5_below (set5_below DB.out.drew (Nat.le_refl _) _ _ _ _ _) (by omega) _ _ _ _ _
  · have eA : A = -1 := by rw [HA.out]; simp
    have eB : B = 1 := by rw [HB.out]; simp
    have eC : C = dC r n := by rw [HC.out]; simp
    have eS : S = dS r n := by rw [HS.out]; simp
    have RC : Hid (Fx c C) := Lib.hid (by rw [eC]; exact FC.out)
    have RS : Hid (Fx s S) := Lib.hid (by rw [eS]; exact FS.out)
    subst eA eB
    clear HA HB HC HS eC eS
    obtain ⟨⟨p0, p1, p2, p3, p4⟩, q0, q1, q2, q3, q4⟩ := C10.out.five
    obtain ⟨⟨u0, u1, u2, u3, u4⟩, v0, v1, v2, v3, v4⟩ := C11.out.five
    have DB := B2
    obtain ⟨⟨z0, z1, z2, z3, z4⟩, y0, y1, y2, y3, y4⟩ := C4.out.five
    obtain ⟨⟨a0, a1, a2, a3, a4⟩, b0, b1, b2, b3, b4⟩ := C5.out.five
    go_upto_region 11 with fail
    go_region
    all_goals
      go_wp2_with fail
      refine bodyPost_ret (v := .tuple #[fxv c, .int .i64 (-1), fxv s, .int .i64 (1)]) (by simp [results, Try.results48, go_sem, z0, z1, z2, z3, z4, a0, a1, a2, a3, a4]) rfl ⟨c, s, rfl, RC.out, RS.out, ?_⟩
      first
      | exact (set5_below (set5_below DB.out (Nat.le_refl _) _ _ _ _ _) (by omega) _ _ _ _ _).drew
      | exact set5_below (set5_below DB.out.drew (Nat.le_refl _) _ _ _ _ _) (by omega) _ _ _ _ _
  · have eA : A = -1 := by rw [HA.out]; simp
    have eB : B = -1 := by rw [HB.out]; simp
    have eC : C = dC r n := by rw [HC.out]; simp
    have eS : S = dS r n := by rw [HS.out]; simp
    have RC : Hid (Fx c C) := Lib.hid (by rw [eC]; exact FC.out)
    have RS : Hid (Fx s S) := Lib.hid (by rw [eS]; exact FS.out)
    subst eA eB
    clear HA HB HC HS eC eS
    obtain ⟨⟨p0, p1, p2, p3, p4⟩, q0, q1, q2, q3, q4⟩ := C10.out.five
    obtain ⟨⟨u0, u1, u2, u3, u4⟩, v0, v1, v2, v3, v4⟩ := C11.out.five
    have DB := B2
    obtain ⟨⟨z0, z1, z2, z3, z4⟩, y0, y1, y2, y3, y4⟩ := C4.out.five
    obtain ⟨⟨a0, a1, a2, a3, a4⟩, b0, b1, b2, b3, b4⟩ := C5.out.five
    go_upto_region 11 with fail
    go_region
    all_goals
      go_wp2_with fail
      refine bodyPost_ret (v := .tuple #[fxv c, .int .i64 (-1), fxv s, .int .i64 (-1)]) (by simp [results, Try.results48, go_sem, z0, z1, z2, z3, z4, a0, a1, a2, a3, a4]) rfl ⟨c, s, rfl, RC.out, RS.out, ?_⟩
      first
      | exact (set5_below (set5_below DB.out (Nat.le_refl _) _ _ _ _ _) (by omega) _ _ _ _ _).drew
      | exact set5_below (set5_below DB.out.drew (Nat.le_refl _) _ _ _ _ _) (by omega) _ _ _ _ _
  · have eA : A = -1 := by rw [HA.out]; simp
    have eB : B = -1 := by rw [HB.out]; simp
    have eC : C = dS r n := by rw [HC.out]; simp
    have eS : S = dC r n := by rw [HS.out]; simp
    have RC : Hid (Fx s C) := Lib.hid (by rw [eC]; exact FS.out)
    have RS : Hid (Fx c S) := Lib.hid (by rw [eS]; exact FC.out)
    subst eA eB
    clear HA HB HC HS eC eS
    obtain ⟨⟨p0, p1, p2, p3, p4⟩, q0, q1, q2, q3, q4⟩ := C10.out.five
    obtain ⟨⟨u0, u1, u2, u3, u4⟩, v0, v1, v2, v3, v4⟩ := C11.out.five
    go_upto_region 5 with fail
    obtain ⟨W3, hW⟩ : ∃ W, W = ((((((((((W2.setCell ⟨w1.heap.size, 0, none⟩ (.int .i64 (s 0))).setCell ⟨w1.heap.size, 1, none⟩ (.int .i64 (s 1))).setCell ⟨w1.heap.size, 2, none⟩ (.int .i64 (s 2))).setCell ⟨w1.heap.size, 3, none⟩ (.int .i64 (s 3))).setCell ⟨w1.heap.size, 4, none⟩ (.int .i64 (s 4))).setCell ⟨(w1.heap.size + 1), 0, none⟩ (.int .i64 (c 0))).setCell ⟨(w1.heap.size + 1), 1, none⟩ (.int .i64 (c 1))).setCell ⟨(w1.heap.size + 1), 2, none⟩ (.int .i64 (c 2))).setCell ⟨(w1.heap.size + 1), 3, none⟩ (.int .i64 (c 3))).setCell ⟨(w1.heap.size + 1), 4, none⟩ (.int .i64 (c 4))) := ⟨_, rfl⟩
    have D10 := Lib.hid ((C10.out.set5 s).other5 (show w1.heap.size + 1 ≠ w1.heap.size by omega) c)
    have D11 := Lib.hid ((C11.out.other5 (show w1.heap.size ≠ w1.heap.size + 1 by omega) s).set5 c)
    have D4 := Lib.hid ((C4.out.other5 (show w1.heap.size ≠ w.heap.size by omega) s).other5 (show w1.heap.size + 1 ≠ w.heap.size by omega) c)
    have D5 := Lib.hid ((C5.out.other5 (show w1.heap.size ≠ w.heap.size + 1 by omega) s).other5 (show w1.heap.size + 1 ≠ w.heap.size + 1 by omega) c)
    have DB := Lib.hid (set5_below (set5_below B2.out (show w.heap.size ≤ w1.heap.size by omega) (.int .i64 (s 0)) (.int .i64 (s 1)) (.int .i64 (s 2)) (.int .i64 (s 3)) (.int .i64 (s 4))) (show w.heap.size ≤ w1.heap.size + 1 by omega) (.int .i64 (c 0)) (.int .i64 (c 1)) (.int .i64 (c 2)) (.int .i64 (c 3)) (.int .i64 (c 4)))
    rw [← hW] at D10 D11 D4 D5 DB ⊢
    clear hW p0 p1 p2 p3 p4 q0 q1 q2 q3 q4 u0 u1 u2 u3 u4 v0 v1 v2 v3 v4 C10 C11 C4 C5 B2
    obtain ⟨⟨p0, p1, p2, p3, p4⟩, q0, q1, q2, q3, q4⟩ := D10.out.five
    obtain ⟨⟨u0, u1, u2, u3, u4⟩, v0, v1, v2, v3, v4⟩ := D11.out.five
    obtain ⟨⟨z0, z1, z2, z3, z4⟩, y0, y1, y2, y3, y4⟩ := D4.out.five
    obtain ⟨⟨a0, a1, a2, a3, a4⟩, b0, b1, b2, b3, b4⟩ := D5.out.five
    go_upto_region 11 with fail
    go_region
    all_goals
      go_wp2_with fail
      refine bodyPost_ret (v := .tuple #[fxv s, .int .i64 (-1), fxv c, .int .i64 (-1)]) (by simp [results, Try.results48, go_sem, z0, z1, z2, z3, z4, a0, a1, a2, a3, a4]) rfl ⟨s, c, rfl, RC.out, RS.out, ?_⟩
      first
      | exact (set5_below (set5_below DB.out (Nat.le_refl _) _ _ _ _ _) (by omega) _ _ _ _ _).drew
      | exact set5_below (set5_below DB.out.drew (Nat.le_refl _) _ _ _ _ _) (by omega) _ _ _ _ _
  · have eA : A = 1 := by rw [HA.out]; simp
    have eB : B = -1 := by rw [HB.out]; simp
    have eC : C = dS r n := by rw [HC.out]; simp
    have eS : S = dC r n := by rw [HS.out]; simp
    have RC : Hid (Fx s C) := Lib.hid (by rw [eC]; exact FS.out)
    have RS : Hid (Fx c S) := Lib.hid (by rw [eS]; exact FC.out)
    subst eA eB
    clear HA HB HC HS eC eS
    obtain ⟨⟨p0, p1, p2, p3, p4⟩, q0, q1, q2, q3, q4⟩ := C10.out.five
    obtain ⟨⟨u0, u1, u2, u3, u4⟩, v0, v1, v2, v3, v4⟩ := C11.out.five
    go_upto_region 5 with fail
    obtain ⟨W3, hW⟩ : ∃ W, W = ((((((((((W2.setCell ⟨w1.heap.size, 0, none⟩ (.int .i64 (s 0))).setCell ⟨w1.heap.size, 1, none⟩ (.int .i64 (s 1))).setCell ⟨w1.heap.size, 2, none⟩ (.int .i64 (s 2))).setCell ⟨w1.heap.size, 3, none⟩ (.int .i64 (s 3))).setCell ⟨w1.heap.size, 4, none⟩ (.int .i64 (s 4))).setCell ⟨(w1.heap.size + 1), 0, none⟩ (.int .i64 (c 0))).setCell ⟨(w1.heap.size + 1), 1, none⟩ (.int .i64 (c 1))).setCell ⟨(w1.heap.size + 1), 2, none⟩ (.int .i64 (c 2))).setCell ⟨(w1.heap.size + 1), 3, none⟩ (.int .i64 (c 3))).setCell ⟨(w1.heap.size + 1), 4, none⟩ (.int .i64 (c 4))) := ⟨_, rfl⟩
    have D10 := Lib.hid ((C10.out.set5 s).other5 (show w1.heap.size + 1 ≠ w1.heap.size by omega) c)
    have D11 := Lib.hid ((C11.out.other5 (show w1.heap.size ≠ w1.heap.size + 1 by omega) s).set5 c)
    have D4 := Lib.hid ((C4.out.other5 (show w1.heap.size ≠ w.heap.size by omega) s).other5 (show w1.heap.size + 1 ≠ w.heap.size by omega) c)
    have D5 := Lib.hid ((C5.out.other5 (show w1.heap.size ≠ w.heap.size + 1 by omega) s).other5 (show w1.heap.size + 1 ≠ w.heap.size + 1 by omega) c)
    have DB := Lib.hid (set5_below (set5_below B2.out (show w.heap.size ≤ w1.heap.size by omega) (.int .i64 (s 0)) (.int .i64 (s 1)) (.int .i64 (s 2)) (.int .i64 (s 3)) (.int .i64 (s 4))) (show w.heap.size ≤ w1.heap.size + 1 by omega) (.int .i64 (c 0)) (.int .i64 (c 1)) (.int .i64 (c 2)) (.int .i64 (c 3)) (.int .i64 (c 4)))
    rw [← hW] at D10 D11 D4 D5 DB ⊢
    clear hW p0 p1 p2 p3 p4 q0 q1 q2 q3 q4 u0 u1 u2 u3 u4 v0 v1 v2 v3 v4 C10 C11 C4 C5 B2
    obtain ⟨⟨p0, p1, p2, p3, p4⟩, q0, q1, q2, q3, q4⟩ := D10.out.five
    obtain ⟨⟨u0, u1, u2, u3, u4⟩, v0, v1, v2, v3, v4⟩ := D11.out.five
    obtain ⟨⟨z0, z1, z2, z3, z4⟩, y0, y1, y2, y3, y4⟩ := D4.out.five
    obtain ⟨⟨a0, a1, a2, a3, a4⟩, b0, b1, b2, b3, b4⟩ := D5.out.five
    go_upto_region 11 with fail
    go_region
    all_goals
      go_wp2_with fail
      refine bodyPost_ret (v := .tuple #[fxv s, .int .i64 (1), fxv c, .int .i64 (-1)]) (by simp [results, Try.results48, go_sem, z0, z1, z2, z3, z4, a0, a1, a2, a3, a4]) rfl ⟨s, c, rfl, RC.out, RS.out, ?_⟩
      first
      | exact (set5_below (set5_below DB.out (Nat.le_refl _) _ _ _ _ _) (by omega) _ _ _ _ _).drew
      | exact set5_below (set5_below DB.out.drew (Nat.le_refl _) _ _ _ _ _) (by omega) _ _ _ _ _
  · have eA : A = 1 := by rw [HA.out]; simp
    have eB : B = -1 := by rw [HB.out]; simp
    have eC : C = dC r n := by rw [HC.out]; simp
    have eS : S = dS r n := by rw [HS.out]; simp
    have RC : Hid (Fx c C) := Lib.hid (by rw [eC]; exact FC.out)
    have RS : Hid (Fx s S) := Lib.hid (by rw [eS]; exact FS.out)
    subst eA eB
    clear HA HB HC HS eC eS
    obtain ⟨⟨p0, p1, p2, p3, p4⟩, q0, q1, q2, q3, q4⟩ := C10.out.five
    obtain ⟨⟨u0, u1, u2, u3, u4⟩, v0, v1, v2, v3, v4⟩ := C11.out.five
    have DB := B2
    obtain ⟨⟨z0, z1, z2, z3, z4⟩, y0, y1, y2, y3, y4⟩ := C4.out.five
    obtain ⟨⟨a0, a1, a2, a3, a4⟩, b0, b1, b2, b3, b4⟩ := C5.out.five
    go_upto_region 11 with fail
    go_region
    all_goals
      go_wp2_with fail
      refine bodyPost_ret (v := .tuple #[fxv c, .int .i64 (1), fxv s, .int .i64 (-1)]) (by simp [results, Try.results48, go_sem, z0, z1, z2, z3, z4, a0, a1, a2, a3, a4]) rfl ⟨c, s, rfl, RC.out, RS.out, ?_⟩
      first
      | exact (set5_below (set5_below DB.out (Nat.le_refl _) _ _ _ _ _) (by omega) _ _ _ _ _).drew
      | exact set5_below (set5_below DB.out.drew (Nat.le_refl _) _ _ _ _ _) (by omega) _ _ _ _ _

end Go.Proofs.Ytnpkblidlmkagaa
