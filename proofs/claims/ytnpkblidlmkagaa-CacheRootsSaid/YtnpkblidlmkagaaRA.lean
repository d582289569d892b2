import Derived.Test.YtnpkblidlmkagaaW20
import Derived.BigQuiet
import Derived.Deep.QuietTactic
/- Numbers of five limbs: rows of integers; the contract of carry. -/
set_option linter.unusedSimpArgs false
set_option linter.unusedVariables false
namespace Go.Proofs.Ytnpkblidlmkagaa
open Go.RowKit Fl

/-- A row of integers in block b, from its start on, that may be written. -/
def RowI (w : World) (b n : Nat) (f : Nat → Int) : Prop := ∀ i, i < n → w.cell? ⟨b, i, none⟩ = some (.int .i64 (f i)) ∧ w.frozen? ⟨b, i, none⟩ = false

theorem RowI.keep {W w1 : World} {b n : Nat} {f : Nat → Int} (hb : Below W.heap.size W w1) (h : RowI W b n f) : RowI w1 b n f := fun i hi =>
  ⟨keep_cell hb (h i hi).1, keep_free hb (World.block_lt_of_cell? _ _ (h i hi).1) (h i hi).2⟩
theorem RowI.alloc {w : World} {b n : Nat} {f : Nat → Int} (h : RowI w b n f) (o : Obj) : RowI (w.alloc o) b n f := h.keep ((Below.refl _ w).alloc (Nat.le_refl _) o)
theorem RowI.lt {w : World} {b n : Nat} {f : Nat → Int} (h : RowI w b n f) (hn : 0 < n) : b < w.heap.size := World.block_lt_of_cell? _ _ (h 0 hn).1
theorem RowI.setOther {w : World} {b n : Nat} {f : Nat → Int} (h : RowI w b n f) (p : Addr) (hp : p.block ≠ b) (z : Value) : RowI (w.setCell p z) b n f := fun i hi => by
  obtain ⟨r0, f0⟩ := h i hi
  refine ⟨?_, by rw [World.frozen?_setCell]; exact f0⟩
  rw [World.cell?_setCell_other]
  · exact r0
  · exact fun h => hp (congrArg Addr.block h)
theorem RowI.set {w : World} {b n : Nat} {f : Nat → Int} (h : RowI w b n f) {j : Nat} (hj : j < n) (v : Int) : RowI (w.setCell ⟨b, j, none⟩ (.int .i64 v)) b n (upd f j v) := by
  intro i hi
  refine ⟨?_, by rw [World.frozen?_setCell]; exact (h i hi).2⟩
  unfold upd
  by_cases e : i = j
  · subst e; rw [if_pos rfl]; exact World.cell?_setCell_same _ _ _ (h i hi).1
  · rw [if_neg e, World.cell?_setCell_other]
    · exact (h i hi).1
    · exact fun h => e (congrArg Addr.off h).symm
theorem RowI.congr {w : World} {b n : Nat} {f g : Nat → Int} (h : RowI w b n f) (e : ∀ i, i < n → f i = g i) : RowI w b n g := fun i hi => by rw [← e i hi]; exact h i hi

/-- A number of five limbs. -/
abbrev fxv (f : Nat → Int) : Value := .agg #[.int .i64 (f 0), .int .i64 (f 1), .int .i64 (f 2), .int .i64 (f 3), .int .i64 (f 4)]

theorem row5_new (w : World) (f : Nat → Int) (t : TypeId) : RowI (w.alloc (.cells #[.int .i64 (f 0), .int .i64 (f 1), .int .i64 (f 2), .int .i64 (f 3), .int .i64 (f 4)] t)) w.heap.size 5 f := by
  intro i hi
  rcases (show i = 0 ∨ i = 1 ∨ i = 2 ∨ i = 3 ∨ i = 4 by omega) with rfl | rfl | rfl | rfl | rfl <;> simp [go_sem]

theorem RowI.five {w : World} {b : Nat} {f : Nat → Int} (h : RowI w b 5 f) : (w.cell? ⟨b, 0, none⟩ = some (.int .i64 (f 0)) ∧ w.cell? ⟨b, 1, none⟩ = some (.int .i64 (f 1)) ∧ w.cell? ⟨b, 2, none⟩ = some (.int .i64 (f 2)) ∧ w.cell? ⟨b, 3, none⟩ = some (.int .i64 (f 3)) ∧ w.cell? ⟨b, 4, none⟩ = some (.int .i64 (f 4))) ∧
    (w.frozen? ⟨b, 0, none⟩ = false ∧ w.frozen? ⟨b, 1, none⟩ = false ∧ w.frozen? ⟨b, 2, none⟩ = false ∧ w.frozen? ⟨b, 3, none⟩ = false ∧ w.frozen? ⟨b, 4, none⟩ = false) :=
  ⟨⟨(h 0 (by omega)).1, (h 1 (by omega)).1, (h 2 (by omega)).1, (h 3 (by omega)).1, (h 4 (by omega)).1⟩, (h 0 (by omega)).2, (h 1 (by omega)).2, (h 2 (by omega)).2, (h 3 (by omega)).2, (h 4 (by omega)).2⟩

theorem set5_below {base b : Nat} {w wr : World} (h : Below base w wr) (hb : base ≤ b) (u0 u1 u2 u3 u4 : Value) :
    Below base w (((((wr.setCell ⟨b, 0, none⟩ u0).setCell ⟨b, 1, none⟩ u1).setCell ⟨b, 2, none⟩ u2).setCell ⟨b, 3, none⟩ u3).setCell ⟨b, 4, none⟩ u4) :=
  ((((h.setCell (p := ⟨b, 0, none⟩) hb u0).setCell (p := ⟨b, 1, none⟩) hb u1).setCell (p := ⟨b, 2, none⟩) hb u2).setCell (p := ⟨b, 3, none⟩) hb u3).setCell (p := ⟨b, 4, none⟩) hb u4

/-- What carry makes of limbs. -/
structure Carried (f g : Nat → Int) : Prop where
  v : val g 5 = val f 5
  lo : ∀ j, j < 4 → 0 ≤ g j ∧ g j < 1073741824

/-- The state of carry ahead of round k. -/
structure Carry (f g : Nat → Int) (k : Nat) (c : Int) : Prop where
  v : val g k + c * 2 ^ (30 * k) = val f k
  lo : ∀ j, j < k → 0 ≤ g j ∧ g j < 1073741824
  hi : ∀ j, k ≤ j → g j = f j
  c1 : -4294967296 ≤ c
  c2 : c ≤ 4294967296

theorem val_upd_ge (f : Nat → Int) (j : Nat) (x : Int) : ∀ n, n ≤ j → val (upd f j x) n = val f n
  | 0, _ => rfl
  | n + 1, h => by
    unfold val
    rw [val_upd_ge f j x n (by omega)]
    congr 1
    unfold upd
    rw [if_neg (by omega)]

theorem Carry.step {f g : Nat → Int} {k : Nat} {c : Int} (h : Carry f g k c) (hf : ∀ j, -2305843009213693952 ≤ f j ∧ f j ≤ 2305843009213693952) :
    Carry f (upd g k ((g k + c) % 1073741824)) (k + 1) ((g k + c) / 1073741824) := by
  have hk := h.hi k (Nat.le_refl _)
  have hb := hf k
  have c1 := h.c1
  have c2 := h.c2
  refine ⟨?_, ?_, ?_, by omega, by omega⟩
  · show val (upd g k _) k + upd g k _ k * 2 ^ (30 * k) + _ = val f k + f k * 2 ^ (30 * k)
    rw [val_upd_ge _ _ _ k (Nat.le_refl _), ← h.v]
    have e : upd g k ((g k + c) % 1073741824) k = (g k + c) % 1073741824 := by unfold upd; rw [if_pos rfl]
    have e2 : (2 : Int) ^ (30 * (k + 1)) = 1073741824 * 2 ^ (30 * k) := by
      rw [show 30 * (k + 1) = 30 + 30 * k by omega, Int.pow_add]; rfl
    have e3 := Int.mul_ediv_add_emod (g k + c) 1073741824
    rw [e, e2, ← Int.mul_assoc, Int.mul_comm _ 1073741824, Int.add_assoc, ← Int.add_mul, Int.add_comm ((g k + c) % 1073741824), e3, hk, Int.add_mul]
    omega
  · intro j hj
    unfold upd
    split
    · omega
    · exact h.lo j (by omega)
  · intro j hj
    unfold upd
    rw [if_neg (by omega)]
    exact h.hi j (by omega)

theorem Carry.fin {f g : Nat → Int} {c : Int} (h : Carry f g 4 c) : Carried f (upd g 4 (g 4 + c)) := by
  constructor
  · show val (upd g 4 _) 4 + upd g 4 _ 4 * 2 ^ (30 * 4) = val f 4 + f 4 * 2 ^ (30 * 4)
    rw [val_upd_ge _ _ _ 4 (Nat.le_refl _), ← h.v]
    have e : upd g 4 (g 4 + c) 4 = g 4 + c := by unfold upd; rw [if_pos rfl]
    rw [e, h.hi 4 (Nat.le_refl _), Int.add_mul]
    omega
  · intro j hj
    unfold upd
    rw [if_neg (by omega)]
    exact h.lo j hj

set_option maxRecDepth 100000 in
set_option maxHeartbeats 2000000 in
theorem carry_any (f : Nat → Int) (w : World) (hf : ∀ j, -2305843009213693952 ≤ f j ∧ f j ≤ 2305843009213693952) :
    Calls Try.prog 110 #[fxv f] w fun z w' => ∃ g, z = .returned (fxv g) ∧ Carried f g ∧ Below w.heap.size w w' := by
  have HF := Lib.hid hf
  clear hf
  have A1 := Lib.hid ((row5_new w f 58).alloc (.cells #[.int .i64 0, .int .i64 0, .int .i64 0, .int .i64 0, .int .i64 0] 58))
  have A2 : Hid (RowI ((w.alloc (.cells #[.int .i64 (f 0), .int .i64 (f 1), .int .i64 (f 2), .int .i64 (f 3), .int .i64 (f 4)] 58)).alloc (.cells #[.int .i64 0, .int .i64 0, .int .i64 0, .int .i64 0, .int .i64 0] 58)) (w.heap.size + 1) 5 (fun _ => 0)) := Lib.hid (by
    have := row5_new (w.alloc (.cells #[.int .i64 (f 0), .int .i64 (f 1), .int .i64 (f 2), .int .i64 (f 3), .int .i64 (f 4)] 58)) (fun _ => 0) 58
    simpa using this)
  have B0 := Lib.hid (((Below.refl _ w).alloc (Nat.le_refl _) (.cells #[.int .i64 (f 0), .int .i64 (f 1), .int .i64 (f 2), .int .i64 (f 3), .int .i64 (f 4)] 58)).alloc (by simp) (.cells #[.int .i64 0, .int .i64 0, .int .i64 0, .int .i64 0, .int .i64 0] 58))
  go_enter Try.func110, Try.ntmps110
  go_wp2_with fail
  go_loopw [3, 4, 5] (fun cc i v wr => ∃ (k : Nat) (g : Nat → Int) (c : Int), k ≤ 4 ∧ i = .int .i64 k ∧ cc = .int .i64 c ∧ Hid (RowI wr w.heap.size 5 g) ∧ Hid (RowI wr (w.heap.size + 1) 5 (fun _ => 0)) ∧ Hid (Carry f g k c) ∧ Hid (Below w.heap.size w wr)) (fun _ i _ _ => 4 - (intOf i).toNat)
  case atStart => exact ⟨0, f, 0, by omega, rfl, rfl, A1, A2, Lib.hid ⟨by simp [val], fun j hj => by omega, fun j _ => rfl, by omega, by omega⟩, B0⟩
  case round =>
    obtain ⟨k, g, c, hk, rfl, rfl, hr, hz, hc, hb⟩ := hrel
    have hz0 := hb.out.size
    have hw0 := hr.out.lt (by omega)
    have hw1 := hz.out.lt (by omega)
    by_cases hlt : k < 4
    · obtain ⟨r0, f0⟩ := hr.out k (by omega)
      have hgk := hc.out.hi k (Nat.le_refl _)
      have hfk := HF.out k
      have c1 := hc.out.c1
      have c2 := hc.out.c2
      obtain ⟨v, hv⟩ : ∃ v, v = g k + c := ⟨_, rfl⟩
      have wr1 : wrap64 (g k + c) = v := by rw [hv]; unfold wrap64; omega
      have a1 := i64_low30 v
      have HV := Lib.hid hv
      have HR := Lib.hid (hr.out.set (show k < 5 by omega) (v % 1073741824))
      have HZ := Lib.hid (hz.out.setOther ⟨w.heap.size, k, none⟩ (by show w.heap.size ≠ _; omega) (.int .i64 (v % 1073741824)))
      have HB : Hid (Below w.heap.size w (wr.setCell ⟨w.heap.size, k, none⟩ (.int .i64 (v % 1073741824)))) := Lib.hid (hb.out.setCell (p := ⟨_, _, _⟩) (Nat.le_refl _) _)
      have HC : Hid (Carry f (upd g k (v % 1073741824)) (k + 1) (v / 1073741824)) := Lib.hid (by rw [hv]; exact hc.out.step HF.out)
      clear hv hr hz hb hc c1 c2 hgk hfk
      go_wp2_with (first | simp only [wr1, a1] | fail)
      exact ⟨⟨k + 1, _, _, by omega, by go_num, rfl, HR, HZ, HC, HB⟩, by simp [intOf]; omega⟩
    · obtain rfl : k = 4 := by omega
      obtain ⟨⟨r0, r1, r2, r3, r4⟩, f0, f1, f2, f3, f4⟩ := hr.out.five
      have hgk := hc.out.hi 4 (Nat.le_refl _)
      have hfk := HF.out 4
      have c1 := hc.out.c1
      have c2 := hc.out.c2
      have wr1 : wrap64 (g 4 + c) = g 4 + c := by unfold wrap64; omega
      have HC := Lib.hid hc.out.fin
      obtain ⟨⟨z0, z1, z2, z3, z4⟩, y0, y1, y2, y3, y4⟩ := hz.out.five
      clear hc c1 c2 hgk hfk
      go_wp2_with (first | simp only [wr1] | fail)
      refine bodyPost_ret (v := fxv (upd g 4 (g 4 + c))) (by simp [results, Try.results110, go_sem, upd, z0, z1, z2, z3, z4, hw1]) rfl ⟨_, rfl, HC.out, ?_⟩
      exact set5_below (hb.out.setCell (p := ⟨w.heap.size, 4, none⟩) (Nat.le_refl _) _) (by omega) _ _ _ _ _

end Go.Proofs.Ytnpkblidlmkagaa

/- The contracts of Plus, Minus, Often: five limbs. -/
set_option linter.unusedSimpArgs false
set_option linter.unusedVariables false
namespace Go.Proofs.Ytnpkblidlmkagaa
open Go.RowKit Fl

/-- Limbs, each from 0 on and below 2^30; their value. -/
structure Fx (f : Nat → Int) (V : Int) : Prop where
  v : val f 5 = V
  lo : ∀ j, j < 5 → 0 ≤ f j ∧ f j < 1073741824

theorem val_congr (f g : Nat → Int) : ∀ n, (∀ j, j < n → f j = g j) → val f n = val g n
  | 0, _ => rfl
  | n + 1, h => by
    unfold val
    rw [val_congr f g n (fun j hj => h j (by omega)), h n (by omega)]

theorem val_add (f g : Nat → Int) : ∀ n, val (fun j => f j + g j) n = val f n + val g n
  | 0 => rfl
  | n + 1 => by
    unfold val
    rw [val_add f g n, Int.add_mul]; omega
theorem val_sub (f g : Nat → Int) : ∀ n, val (fun j => f j - g j) n = val f n - val g n
  | 0 => rfl
  | n + 1 => by
    unfold val
    rw [val_sub f g n, Int.sub_mul]; omega
theorem val_mul (f : Nat → Int) (m : Int) : ∀ n, val (fun j => f j * m) n = val f n * m
  | 0 => by simp [val]
  | n + 1 => by
    unfold val
    rw [val_mul f m n, Int.add_mul, Int.mul_assoc, Int.mul_assoc, Int.mul_comm m]

/-- The first k limbs turned. -/
def mix (A f : Nat → Int) (k : Nat) : Nat → Int := fun j => if j < k then A j else f j
theorem mix_zero (A f : Nat → Int) : mix A f 0 = f := by funext j; unfold mix; rw [if_neg (by omega)]
theorem mix_at (A f : Nat → Int) (k : Nat) : mix A f k k = f k := by unfold mix; rw [if_neg (by omega)]
theorem mix_step (A f : Nat → Int) (k : Nat) (v : Int) (hv : v = A k) : upd (mix A f k) k v = mix A f (k + 1) := by
  funext j
  unfold upd mix
  by_cases h : j = k
  · subst h; rw [if_pos rfl, if_pos (by omega), hv]
  · rw [if_neg h]
    by_cases h2 : j < k
    · rw [if_pos h2, if_pos (by omega)]
    · rw [if_neg h2, if_neg (by omega)]

set_option maxRecDepth 100000 in
set_option maxHeartbeats 4000000 in
theorem plus_any (f g A : Nat → Int) (w : World) (hA : ∀ j, j < 5 → A j = f j + g j) (hB : ∀ j, -2305843009213693952 ≤ A j ∧ A j ≤ 2305843009213693952) :
    Calls Try.prog 103 #[fxv f, fxv g] w fun z w' => ∃ h, z = .returned (fxv h) ∧ Carried A h ∧ Below w.heap.size w w' := by
  have HA := Lib.hid hA
  have HBD := Lib.hid hB
  clear hA hB
  have A1 : Hid (RowI (((w.alloc (.cells #[.int .i64 (f 0), .int .i64 (f 1), .int .i64 (f 2), .int .i64 (f 3), .int .i64 (f 4)] 58)).alloc (.cells #[.int .i64 (g 0), .int .i64 (g 1), .int .i64 (g 2), .int .i64 (g 3), .int .i64 (g 4)] 58)).alloc (.cells #[.int .i64 0, .int .i64 0, .int .i64 0, .int .i64 0, .int .i64 0] 58)) w.heap.size 5 (mix A f 0)) := Lib.hid (by rw [mix_zero]; exact ((row5_new w f 58).alloc _).alloc _)
  have A2 : Hid (RowI (((w.alloc (.cells #[.int .i64 (f 0), .int .i64 (f 1), .int .i64 (f 2), .int .i64 (f 3), .int .i64 (f 4)] 58)).alloc (.cells #[.int .i64 (g 0), .int .i64 (g 1), .int .i64 (g 2), .int .i64 (g 3), .int .i64 (g 4)] 58)).alloc (.cells #[.int .i64 0, .int .i64 0, .int .i64 0, .int .i64 0, .int .i64 0] 58)) (w.heap.size + 1) 5 g) := Lib.hid (RowI.alloc (by
    have := row5_new (w.alloc (.cells #[.int .i64 (f 0), .int .i64 (f 1), .int .i64 (f 2), .int .i64 (f 3), .int .i64 (f 4)] 58)) g 58
    simpa using this) _)
  have A3 : Hid (RowI (((w.alloc (.cells #[.int .i64 (f 0), .int .i64 (f 1), .int .i64 (f 2), .int .i64 (f 3), .int .i64 (f 4)] 58)).alloc (.cells #[.int .i64 (g 0), .int .i64 (g 1), .int .i64 (g 2), .int .i64 (g 3), .int .i64 (g 4)] 58)).alloc (.cells #[.int .i64 0, .int .i64 0, .int .i64 0, .int .i64 0, .int .i64 0] 58)) (w.heap.size + 1 + 1) 5 (fun _ => 0)) := Lib.hid (by
    have := row5_new ((w.alloc (.cells #[.int .i64 (f 0), .int .i64 (f 1), .int .i64 (f 2), .int .i64 (f 3), .int .i64 (f 4)] 58)).alloc (.cells #[.int .i64 (g 0), .int .i64 (g 1), .int .i64 (g 2), .int .i64 (g 3), .int .i64 (g 4)] 58)) (fun _ => 0) 58
    simpa using this)
  have B0 := Lib.hid ((((Below.refl _ w).alloc (Nat.le_refl _) (.cells #[.int .i64 (f 0), .int .i64 (f 1), .int .i64 (f 2), .int .i64 (f 3), .int .i64 (f 4)] 58)).alloc (by simp) (.cells #[.int .i64 (g 0), .int .i64 (g 1), .int .i64 (g 2), .int .i64 (g 3), .int .i64 (g 4)] 58)).alloc (by simp; omega) (.cells #[.int .i64 0, .int .i64 0, .int .i64 0, .int .i64 0, .int .i64 0] 58))
  go_enter Try.func103, Try.ntmps103
  go_wp2_with fail
  go_loopw [5] (fun i wr => ∃ (k : Nat), k ≤ 5 ∧ i = .int .i64 k ∧ Hid (RowI wr w.heap.size 5 (mix A f k)) ∧ Hid (RowI wr (w.heap.size + 1) 5 g) ∧ Hid (RowI wr (w.heap.size + 1 + 1) 5 (fun _ => 0)) ∧ Hid (Below w.heap.size w wr)) (fun i _ => 5 - (intOf i).toNat)
  case atStart => exact ⟨0, by omega, rfl, A1, A2, A3, B0⟩
  case round =>
    obtain ⟨k, hk, rfl, hr, hg, hz, hb⟩ := hrel
    have hz0 := hb.out.size
    have hw0 := hr.out.lt (by omega)
    have hw1 := hg.out.lt (by omega)
    have hw2 := hz.out.lt (by omega)
    clear A1 A2 A3 B0
    by_cases hlt : k < 5
    · obtain ⟨r0, f0⟩ := hr.out k hlt
      obtain ⟨r1, f1⟩ := hg.out k hlt
      rw [mix_at] at r0
      have b1 := HBD.out k
      rw [HA.out k hlt] at b1
      have wr1 : IntKind.i64.wrap (f k + g k) = f k + g k := by rw [IntKind.wrap_i64]; omega
      have wr2 : wrap64 (f k + g k) = f k + g k := by unfold wrap64; omega
      have HR : Hid (RowI (wr.setCell ⟨w.heap.size, k, none⟩ (.int .i64 (f k + g k))) w.heap.size 5 (mix A f (k + 1))) := Lib.hid (by
        rw [← mix_step A f k (f k + g k) (HA.out k hlt).symm]
        exact hr.out.set hlt _)
      have HGG := Lib.hid (hg.out.setOther ⟨w.heap.size, k, none⟩ (by show w.heap.size ≠ _; omega) (.int .i64 (f k + g k)))
      have HZ := Lib.hid (hz.out.setOther ⟨w.heap.size, k, none⟩ (by show w.heap.size ≠ _; omega) (.int .i64 (f k + g k)))
      have HB : Hid (Below w.heap.size w (wr.setCell ⟨w.heap.size, k, none⟩ (.int .i64 (f k + g k))).drew) := Lib.hid (hb.out.setCell (p := ⟨_, _, _⟩) (Nat.le_refl _) _).drew
      have hk0 : (0 : Int) ≤ (k : Int) := by omega
      have hk5 : (k : Int) < 5 := by omega
      clear hr hg hz hb b1
      go_upto_region 4 with fail
      go_region
      all_goals go_wp2_with fail
      all_goals exact ⟨⟨k + 1, by omega, by go_num, HR, HGG, HZ, HB⟩, by simp [intOf]; omega⟩
    · obtain rfl : k = 5 := by omega
      have hA5 : RowI wr w.heap.size 5 A := hr.out.congr (fun i hi => by unfold mix; rw [if_pos hi])
      obtain ⟨⟨r0, r1, r2, r3, r4⟩, f0, f1, f2, f3, f4⟩ := hA5.five
      have C1 := Lib.hid (fun w => carry_any A w HBD.out)
      clear hr hg hA5
      go_wp2_with fail
      refine (C1.out _).mono ?_
      rintro z w2 ⟨h, rfl, hc, hb2⟩
      have Z2 := hz.out.keep hb2
      have B2 := Lib.hid (hb.out.trans (hb2.mono hz0))
      have HC := Lib.hid hc
      have hw3 := Z2.lt (by omega)
      obtain ⟨⟨z0, z1, z2, z3, z4⟩, y0, y1, y2, y3, y4⟩ := Z2.five
      clear hb2 hb hz hc Z2 r0 r1 r2 r3 r4 f0 f1 f2 f3 f4
      go_wp2_with fail
      refine bodyPost_ret (v := fxv h) (by simp [results, Try.results103, go_sem, z0, z1, z2, z3, z4, hw3]) rfl ⟨_, rfl, HC.out, ?_⟩
      exact set5_below B2.out (by omega) _ _ _ _ _

set_option maxRecDepth 100000 in
set_option maxHeartbeats 4000000 in
theorem minus_any (f g A : Nat → Int) (w : World) (hA : ∀ j, j < 5 → A j = f j - g j) (hB : ∀ j, -2305843009213693952 ≤ A j ∧ A j ≤ 2305843009213693952) :
    Calls Try.prog 105 #[fxv f, fxv g] w fun z w' => ∃ h, z = .returned (fxv h) ∧ Carried A h ∧ Below w.heap.size w w' := by
  have HA := Lib.hid hA
  have HBD := Lib.hid hB
  clear hA hB
  have A1 : Hid (RowI (((w.alloc (.cells #[.int .i64 (f 0), .int .i64 (f 1), .int .i64 (f 2), .int .i64 (f 3), .int .i64 (f 4)] 58)).alloc (.cells #[.int .i64 (g 0), .int .i64 (g 1), .int .i64 (g 2), .int .i64 (g 3), .int .i64 (g 4)] 58)).alloc (.cells #[.int .i64 0, .int .i64 0, .int .i64 0, .int .i64 0, .int .i64 0] 58)) w.heap.size 5 (mix A f 0)) := Lib.hid (by rw [mix_zero]; exact ((row5_new w f 58).alloc _).alloc _)
  have A2 : Hid (RowI (((w.alloc (.cells #[.int .i64 (f 0), .int .i64 (f 1), .int .i64 (f 2), .int .i64 (f 3), .int .i64 (f 4)] 58)).alloc (.cells #[.int .i64 (g 0), .int .i64 (g 1), .int .i64 (g 2), .int .i64 (g 3), .int .i64 (g 4)] 58)).alloc (.cells #[.int .i64 0, .int .i64 0, .int .i64 0, .int .i64 0, .int .i64 0] 58)) (w.heap.size + 1) 5 g) := Lib.hid (RowI.alloc (by
    have := row5_new (w.alloc (.cells #[.int .i64 (f 0), .int .i64 (f 1), .int .i64 (f 2), .int .i64 (f 3), .int .i64 (f 4)] 58)) g 58
    simpa using this) _)
  have A3 : Hid (RowI (((w.alloc (.cells #[.int .i64 (f 0), .int .i64 (f 1), .int .i64 (f 2), .int .i64 (f 3), .int .i64 (f 4)] 58)).alloc (.cells #[.int .i64 (g 0), .int .i64 (g 1), .int .i64 (g 2), .int .i64 (g 3), .int .i64 (g 4)] 58)).alloc (.cells #[.int .i64 0, .int .i64 0, .int .i64 0, .int .i64 0, .int .i64 0] 58)) (w.heap.size + 1 + 1) 5 (fun _ => 0)) := Lib.hid (by
    have := row5_new ((w.alloc (.cells #[.int .i64 (f 0), .int .i64 (f 1), .int .i64 (f 2), .int .i64 (f 3), .int .i64 (f 4)] 58)).alloc (.cells #[.int .i64 (g 0), .int .i64 (g 1), .int .i64 (g 2), .int .i64 (g 3), .int .i64 (g 4)] 58)) (fun _ => 0) 58
    simpa using this)
  have B0 := Lib.hid ((((Below.refl _ w).alloc (Nat.le_refl _) (.cells #[.int .i64 (f 0), .int .i64 (f 1), .int .i64 (f 2), .int .i64 (f 3), .int .i64 (f 4)] 58)).alloc (by simp) (.cells #[.int .i64 (g 0), .int .i64 (g 1), .int .i64 (g 2), .int .i64 (g 3), .int .i64 (g 4)] 58)).alloc (by simp; omega) (.cells #[.int .i64 0, .int .i64 0, .int .i64 0, .int .i64 0, .int .i64 0] 58))
  go_enter Try.func105, Try.ntmps105
  go_wp2_with fail
  go_loopw [5] (fun i wr => ∃ (k : Nat), k ≤ 5 ∧ i = .int .i64 k ∧ Hid (RowI wr w.heap.size 5 (mix A f k)) ∧ Hid (RowI wr (w.heap.size + 1) 5 g) ∧ Hid (RowI wr (w.heap.size + 1 + 1) 5 (fun _ => 0)) ∧ Hid (Below w.heap.size w wr)) (fun i _ => 5 - (intOf i).toNat)
  case atStart => exact ⟨0, by omega, rfl, A1, A2, A3, B0⟩
  case round =>
    obtain ⟨k, hk, rfl, hr, hg, hz, hb⟩ := hrel
    have hz0 := hb.out.size
    have hw0 := hr.out.lt (by omega)
    have hw1 := hg.out.lt (by omega)
    have hw2 := hz.out.lt (by omega)
    clear A1 A2 A3 B0
    by_cases hlt : k < 5
    · obtain ⟨r0, f0⟩ := hr.out k hlt
      obtain ⟨r1, f1⟩ := hg.out k hlt
      rw [mix_at] at r0
      have b1 := HBD.out k
      rw [HA.out k hlt] at b1
      have wr1 : IntKind.i64.wrap (f k - g k) = f k - g k := by rw [IntKind.wrap_i64]; omega
      have wr2 : wrap64 (f k - g k) = f k - g k := by unfold wrap64; omega
      have HR : Hid (RowI (wr.setCell ⟨w.heap.size, k, none⟩ (.int .i64 (f k - g k))) w.heap.size 5 (mix A f (k + 1))) := Lib.hid (by
        rw [← mix_step A f k (f k - g k) (HA.out k hlt).symm]
        exact hr.out.set hlt _)
      have HGG := Lib.hid (hg.out.setOther ⟨w.heap.size, k, none⟩ (by show w.heap.size ≠ _; omega) (.int .i64 (f k - g k)))
      have HZ := Lib.hid (hz.out.setOther ⟨w.heap.size, k, none⟩ (by show w.heap.size ≠ _; omega) (.int .i64 (f k - g k)))
      have HB : Hid (Below w.heap.size w (wr.setCell ⟨w.heap.size, k, none⟩ (.int .i64 (f k - g k))).drew) := Lib.hid (hb.out.setCell (p := ⟨_, _, _⟩) (Nat.le_refl _) _).drew
      have hk0 : (0 : Int) ≤ (k : Int) := by omega
      have hk5 : (k : Int) < 5 := by omega
      clear hr hg hz hb b1
      go_upto_region 4 with fail
      go_region
      all_goals go_wp2_with fail
      all_goals exact ⟨⟨k + 1, by omega, by go_num, HR, HGG, HZ, HB⟩, by simp [intOf]; omega⟩
    · obtain rfl : k = 5 := by omega
      have hA5 : RowI wr w.heap.size 5 A := hr.out.congr (fun i hi => by unfold mix; rw [if_pos hi])
      obtain ⟨⟨r0, r1, r2, r3, r4⟩, f0, f1, f2, f3, f4⟩ := hA5.five
      have C1 := Lib.hid (fun w => carry_any A w HBD.out)
      clear hr hg hA5
      go_wp2_with fail
      refine (C1.out _).mono ?_
      rintro z w2 ⟨h, rfl, hc, hb2⟩
      have Z2 := hz.out.keep hb2
      have B2 := Lib.hid (hb.out.trans (hb2.mono hz0))
      have HC := Lib.hid hc
      have hw3 := Z2.lt (by omega)
      obtain ⟨⟨z0, z1, z2, z3, z4⟩, y0, y1, y2, y3, y4⟩ := Z2.five
      clear hb2 hb hz hc Z2 r0 r1 r2 r3 r4 f0 f1 f2 f3 f4
      go_wp2_with fail
      refine bodyPost_ret (v := fxv h) (by simp [results, Try.results105, go_sem, z0, z1, z2, z3, z4, hw3]) rfl ⟨_, rfl, HC.out, ?_⟩
      exact set5_below B2.out (by omega) _ _ _ _ _

set_option maxRecDepth 100000 in
set_option maxHeartbeats 4000000 in
theorem often_any (f A : Nat → Int) (n : Int) (w : World) (hA : ∀ j, j < 5 → A j = f j * n) (hB : ∀ j, -2305843009213693952 ≤ A j ∧ A j ≤ 2305843009213693952) :
    Calls Try.prog 101 #[fxv f, .int .i64 n] w fun z w' => ∃ h, z = .returned (fxv h) ∧ Carried A h ∧ Below w.heap.size w w' := by
  have HA := Lib.hid hA
  have HBD := Lib.hid hB
  clear hA hB
  have A1 : Hid (RowI ((w.alloc (.cells #[.int .i64 (f 0), .int .i64 (f 1), .int .i64 (f 2), .int .i64 (f 3), .int .i64 (f 4)] 58)).alloc (.cells #[.int .i64 0, .int .i64 0, .int .i64 0, .int .i64 0, .int .i64 0] 58)) w.heap.size 5 (mix A f 0)) := Lib.hid (by rw [mix_zero]; exact (row5_new w f 58).alloc _)
  have A3 : Hid (RowI ((w.alloc (.cells #[.int .i64 (f 0), .int .i64 (f 1), .int .i64 (f 2), .int .i64 (f 3), .int .i64 (f 4)] 58)).alloc (.cells #[.int .i64 0, .int .i64 0, .int .i64 0, .int .i64 0, .int .i64 0] 58)) (w.heap.size + 1) 5 (fun _ => 0)) := Lib.hid (by
    have := row5_new (w.alloc (.cells #[.int .i64 (f 0), .int .i64 (f 1), .int .i64 (f 2), .int .i64 (f 3), .int .i64 (f 4)] 58)) (fun _ => 0) 58
    simpa using this)
  have B0 := Lib.hid (((Below.refl _ w).alloc (Nat.le_refl _) (.cells #[.int .i64 (f 0), .int .i64 (f 1), .int .i64 (f 2), .int .i64 (f 3), .int .i64 (f 4)] 58)).alloc (by simp) (.cells #[.int .i64 0, .int .i64 0, .int .i64 0, .int .i64 0, .int .i64 0] 58))
  go_enter Try.func101, Try.ntmps101
  go_wp2_with fail
  go_loopw [5] (fun i wr => ∃ (k : Nat), k ≤ 5 ∧ i = .int .i64 k ∧ Hid (RowI wr w.heap.size 5 (mix A f k)) ∧ Hid (RowI wr (w.heap.size + 1) 5 (fun _ => 0)) ∧ Hid (Below w.heap.size w wr)) (fun i _ => 5 - (intOf i).toNat)
  case atStart => exact ⟨0, by omega, rfl, A1, A3, B0⟩
  case round =>
    obtain ⟨k, hk, rfl, hr, hz, hb⟩ := hrel
    have hz0 := hb.out.size
    have hw0 := hr.out.lt (by omega)
    have hw2 := hz.out.lt (by omega)
    clear A1 A3 B0
    by_cases hlt : k < 5
    · obtain ⟨r0, f0⟩ := hr.out k hlt
      rw [mix_at] at r0
      have b1 := HBD.out k
      rw [HA.out k hlt] at b1
      have wr2 : wrap64 (f k * n) = f k * n := by
        generalize f k * n = x at *
        unfold wrap64; omega
      have HR : Hid (RowI (wr.setCell ⟨w.heap.size, k, none⟩ (.int .i64 (f k * n))) w.heap.size 5 (mix A f (k + 1))) := Lib.hid (by
        rw [← mix_step A f k (f k * n) (HA.out k hlt).symm]
        exact hr.out.set hlt _)
      have HZ := Lib.hid (hz.out.setOther ⟨w.heap.size, k, none⟩ (by show w.heap.size ≠ _; omega) (.int .i64 (f k * n)))
      have HB : Hid (Below w.heap.size w (wr.setCell ⟨w.heap.size, k, none⟩ (.int .i64 (f k * n)))) := Lib.hid (hb.out.setCell (p := ⟨_, _, _⟩) (Nat.le_refl _) _)
      clear hr hz hb b1
      go_wp2_with (first | simp only [wr2] | fail)
      exact ⟨⟨k + 1, by omega, by go_num, HR, HZ, HB⟩, by simp [intOf]; omega⟩
    · obtain rfl : k = 5 := by omega
      have hA5 : RowI wr w.heap.size 5 A := hr.out.congr (fun i hi => by unfold mix; rw [if_pos hi])
      obtain ⟨⟨r0, r1, r2, r3, r4⟩, f0, f1, f2, f3, f4⟩ := hA5.five
      have C1 := Lib.hid (fun w => carry_any A w HBD.out)
      clear hr hA5
      go_wp2_with fail
      refine (C1.out _).mono ?_
      rintro z w2 ⟨h, rfl, hc, hb2⟩
      have Z2 := hz.out.keep hb2
      have B2 := Lib.hid (hb.out.trans (hb2.mono hz0))
      have HC := Lib.hid hc
      have hw3 := Z2.lt (by omega)
      obtain ⟨⟨z0, z1, z2, z3, z4⟩, y0, y1, y2, y3, y4⟩ := Z2.five
      clear hb2 hb hz hc Z2 r0 r1 r2 r3 r4 f0 f1 f2 f3 f4
      go_wp2_with fail
      refine bodyPost_ret (v := fxv h) (by simp [results, Try.results101, go_sem, z0, z1, z2, z3, z4, hw3]) rfl ⟨_, rfl, HC.out, ?_⟩
      exact set5_below B2.out (by omega) _ _ _ _ _

end Go.Proofs.Ytnpkblidlmkagaa

/- The contracts of Over and Eighth: five limbs. -/
set_option linter.unusedSimpArgs false
set_option linter.unusedVariables false
namespace Go.Proofs.Ytnpkblidlmkagaa
open Go.RowKit Fl

/-- The state of Over behind the limbs from k on: h the limbs, r what is left. -/
structure OverAt (f h : Nat → Int) (n : Int) (k : Nat) (r : Int) : Prop where
  v : (val h 5 - val h k) * n + r * 2 ^ (30 * k) = val f 5 - val f k
  same : ∀ j, j < k → h j = f j
  lo : ∀ j, k ≤ j → j < 5 → 0 ≤ h j ∧ h j < 1073741824
  r0 : 0 ≤ r
  r1 : r < n

theorem OverAt.start (f : Nat → Int) (n : Int) (hn : 1 ≤ n) : OverAt f f n 5 0 :=
  ⟨by rw [Int.sub_self, Int.zero_mul, Int.zero_mul]; rfl, fun _ _ => rfl, fun j h1 h2 => by omega, by omega, by omega⟩

theorem val_split (h : Nat → Int) (k : Nat) (x : Int) : ∀ n, k < n → val (upd h k x) n = val h n + (x - h k) * 2 ^ (30 * k)
  | 0, hk => by omega
  | n + 1, hk => by
    unfold val
    by_cases e : k = n
    · subst e
      rw [val_upd_ge _ _ _ k (Nat.le_refl _)]
      have : upd h k x k = x := by unfold upd; rw [if_pos rfl]
      rw [this, Int.sub_mul]; omega
    · rw [val_split h k x n (by omega)]
      have : upd h k x n = h n := by unfold upd; rw [if_neg (fun g => e g.symm)]
      rw [this]; omega

theorem OverAt.step {f h : Nat → Int} {n r : Int} {k : Nat} (a : OverAt f h n (k + 1) r) (hk : k < 5) (hf : 0 ≤ f k ∧ f k < 1073741824) (hn : 1 ≤ n) :
    OverAt f (upd h k ((r * 1073741824 + h k) / n)) n k ((r * 1073741824 + h k) % n) := by
  have hs := a.same k (by omega)
  have q1 := Int.mul_ediv_add_emod (r * 1073741824 + h k) n
  have q2 := Int.emod_nonneg (r * 1073741824 + h k) (show n ≠ 0 by omega)
  have q3 := Int.emod_lt_of_pos (r * 1073741824 + h k) (show 0 < n by omega)
  obtain ⟨q, hq⟩ : ∃ q, q = (r * 1073741824 + h k) / n := ⟨_, rfl⟩
  obtain ⟨s, hs'⟩ : ∃ s, s = (r * 1073741824 + h k) % n := ⟨_, rfl⟩
  rw [← hq, ← hs'] at q1
  rw [← hs'] at q2 q3
  have r0 := a.r0
  have r1 := a.r1
  have qb : 0 ≤ q ∧ q < 1073741824 := by
    rw [hq]
    refine ⟨Int.ediv_nonneg (by omega) (by omega), Int.ediv_lt_of_lt_mul (by omega) ?_⟩
    have : (r + 1) * 1073741824 ≤ n * 1073741824 := Int.mul_le_mul_of_nonneg_right (by omega) (by omega)
    omega
  rw [← hq, ← hs']
  refine ⟨?_, ?_, ?_, q2, q3⟩
  · have e1 := val_split h k q 5 hk
    have e2 := val_upd_ge h k q k (Nat.le_refl _)
    have e3 : val h (k + 1) = val h k + h k * 2 ^ (30 * k) := rfl
    have e4 : val f (k + 1) = val f k + f k * 2 ^ (30 * k) := rfl
    have e5 : (2 : Int) ^ (30 * (k + 1)) = 1073741824 * 2 ^ (30 * k) := by
      rw [show 30 * (k + 1) = 30 + 30 * k by omega, Int.pow_add]; rfl
    have av := a.v
    rw [e3, e4, e5, hs] at av
    rw [e1, e2, hs]
    rw [hs] at q1
    generalize (2 : Int) ^ (30 * k) = P at *
    have e6 : (val h 5 + (q - f k) * P - val h k) * n + s * P = (val h 5 - (val h k + f k * P)) * n + (n * q + s) * P := by
      have a1 : (q - f k) * P = q * P - f k * P := Int.sub_mul _ _ _
      rw [a1]
      have a2 : val h 5 + (q * P - f k * P) - val h k = (val h 5 - (val h k + f k * P)) + q * P := by omega
      rw [a2, Int.add_mul, Int.add_mul (n * q) s P, Int.mul_comm n q, Int.mul_assoc q n P, Int.mul_assoc q P n, Int.mul_comm P n]
      omega
    rw [e6, q1, Int.add_mul, Int.mul_assoc r]
    generalize (val h 5 - (val h k + f k * P)) * n = X at *
    generalize r * (1073741824 * P) = Y at *
    generalize f k * P = Z at *
    omega
  · intro j hj
    unfold upd
    rw [if_neg (by omega)]
    exact a.same j (by omega)
  · intro j h1 h2
    unfold upd
    by_cases e : j = k
    · rw [if_pos e]; exact qb
    · rw [if_neg e]; exact a.lo j (by omega) h2

theorem OverAt.fin {f h : Nat → Int} {n r V : Int} (a : OverAt f h n 0 r) (hf : Fx f V) (hn : 1 ≤ n) : Fx h (V / n) := by
  have av := a.v
  have e : (2 : Int) ^ (30 * 0) = 1 := rfl
  rw [e, hf.v] at av
  simp only [val, Int.mul_one, Int.sub_zero] at av
  refine ⟨?_, fun j hj => a.lo j (by omega) hj⟩
  have r0 := a.r0
  have r1 := a.r1
  have hv : V = r + n * val h 5 := by
    have : val h 5 * n + r = V := by
      simp only [val]
      omega
    rw [Int.mul_comm n]; omega
  rw [hv, Int.add_mul_ediv_left _ _ (by omega), Int.ediv_eq_zero_of_lt r0 r1]
  omega

theorem eighth_any (w : World) : Calls Try.prog 100 #[] w fun z w' => ∃ h, z = .returned (fxv h) ∧ Fx h (192994332 + 320018826 * 1073741824 + 571903011 * 1152921504606846976 + 843314856 * 1237940039285380274899124224) ∧ Below w.heap.size w w' := by
  go_enter Try.func100, Try.ntmps100
  go_wp2
  refine bodyPost_ret (v := fxv (fun j => if j = 0 then 192994332 else if j = 1 then 320018826 else if j = 2 then 571903011 else if j = 3 then 843314856 else 0)) (by simp [results, Try.results100, go_sem]) rfl ⟨_, rfl, ?_, ?_⟩
  · refine ⟨by decide, fun j hj => ?_⟩
    rcases (show j = 0 ∨ j = 1 ∨ j = 2 ∨ j = 3 ∨ j = 4 by omega) with rfl | rfl | rfl | rfl | rfl <;> decide
  · exact (Below.refl _ _).alloc (Nat.le_refl _) _

set_option maxRecDepth 100000 in
set_option maxHeartbeats 4000000 in
theorem over_any (f : Nat → Int) (V n : Int) (w : World) (hf : Fx f V) (n1 : 1 ≤ n) (n2 : n ≤ 1073741824) :
    Calls Try.prog 102 #[fxv f, .int .i64 n] w fun z w' => ∃ h, z = .returned (fxv h) ∧ Fx h (V / n) ∧ Below w.heap.size w w' := by
  have HF := Lib.hid hf
  clear hf
  have A1 : Hid (RowI ((w.alloc (.cells #[.int .i64 (f 0), .int .i64 (f 1), .int .i64 (f 2), .int .i64 (f 3), .int .i64 (f 4)] 58)).alloc (.cells #[.int .i64 0, .int .i64 0, .int .i64 0, .int .i64 0, .int .i64 0] 58)) w.heap.size 5 f) := Lib.hid ((row5_new w f 58).alloc _)
  have A3 : Hid (RowI ((w.alloc (.cells #[.int .i64 (f 0), .int .i64 (f 1), .int .i64 (f 2), .int .i64 (f 3), .int .i64 (f 4)] 58)).alloc (.cells #[.int .i64 0, .int .i64 0, .int .i64 0, .int .i64 0, .int .i64 0] 58)) (w.heap.size + 1) 5 (fun _ => 0)) := Lib.hid (by
    have := row5_new (w.alloc (.cells #[.int .i64 (f 0), .int .i64 (f 1), .int .i64 (f 2), .int .i64 (f 3), .int .i64 (f 4)] 58)) (fun _ => 0) 58
    simpa using this)
  have B0 := Lib.hid (((Below.refl _ w).alloc (Nat.le_refl _) (.cells #[.int .i64 (f 0), .int .i64 (f 1), .int .i64 (f 2), .int .i64 (f 3), .int .i64 (f 4)] 58)).alloc (by simp) (.cells #[.int .i64 0, .int .i64 0, .int .i64 0, .int .i64 0, .int .i64 0] 58))
  go_enter Try.func102, Try.ntmps102
  go_wp2_with fail
  go_loopw [5, 6, 7] (fun s i v wr => ∃ (k : Nat) (h : Nat → Int) (r : Int), k ≤ 5 ∧ i = .int .i64 ((k : Int) - 1) ∧ s = .int .i64 r ∧ Hid (OverAt f h n k r) ∧ Hid (RowI wr w.heap.size 5 h) ∧ Hid (RowI wr (w.heap.size + 1) 5 (fun _ => 0)) ∧ Hid (Below w.heap.size w wr)) (fun _ i _ _ => (intOf i + 1).toNat)
  case atStart => exact ⟨5, f, 0, by omega, rfl, rfl, Lib.hid (OverAt.start f n n1), A1, A3, B0⟩
  case round =>
    obtain ⟨k, h, r, hk, rfl, rfl, ha, hr, hz, hb⟩ := hrel
    have hz0 := hb.out.size
    have hw0 := hr.out.lt (by omega)
    have hw2 := hz.out.lt (by omega)
    clear A1 A3 B0
    by_cases hlt : 1 ≤ k
    · obtain ⟨j, rfl⟩ : ∃ j, k = j + 1 := ⟨k - 1, by omega⟩
      have ej : ((j + 1 : Nat) : Int) - 1 = (j : Int) := by omega
      rw [ej]
      obtain ⟨r0, f0⟩ := hr.out j (by omega)
      have hs := ha.out.same j (by omega)
      have hfj := HF.out.lo j (by omega)
      have q0 := ha.out.r0
      have q1 := ha.out.r1
      have wr1 : wrap64 (r * 1073741824) = r * 1073741824 := by unfold wrap64; omega
      have wr2 : wrap64 (r * 1073741824 + h j) = r * 1073741824 + h j := by rw [hs]; unfold wrap64; omega
      have hv0 : 0 ≤ r * 1073741824 + h j := by rw [hs]; omega
      have HN := Lib.hid (ha.out.step (by omega) hfj n1)
      obtain ⟨v, hv⟩ : ∃ v, v = r * 1073741824 + h j := ⟨_, rfl⟩
      replace wr2 : wrap64 (r * 1073741824 + h j) = v := by rw [hv]; exact wr2
      rw [← hv] at hv0 HN
      have hq : v.tdiv n = v / n := Int.tdiv_eq_ediv_of_nonneg hv0
      have hm : v.tmod n = v % n := Int.tmod_eq_emod_of_nonneg hv0
      have hqb := HN.out.lo j (Nat.le_refl _) (by omega)
      have eq1 : upd h j (v / n) j = v / n := by unfold upd; rw [if_pos rfl]
      rw [eq1] at hqb
      have wr3 : wrap64 (v / n) = v / n := by unfold wrap64; omega
      have HR := Lib.hid (hr.out.set (show j < 5 by omega) (v / n))
      have HZ := Lib.hid (hz.out.setOther ⟨w.heap.size, j, none⟩ (by show w.heap.size ≠ _; omega) (.int .i64 (v / n)))
      have HB : Hid (Below w.heap.size w (wr.setCell ⟨w.heap.size, j, none⟩ (.int .i64 (v / n)))) := Lib.hid (hb.out.setCell (p := ⟨_, _, _⟩) (Nat.le_refl _) _)
      have HV := Lib.hid hv
      have EJ := Lib.hid ej
      clear hr hz hb ha hs hfj hv eq1 ej
      go_wp2_with (first | simp only [wr1, wr2, wr3, hq, hm] | fail)
      exact ⟨⟨j, _, _, by omega, rfl, rfl, HN, HR, HZ, HB⟩, by simp [intOf]⟩
    · obtain rfl : k = 0 := by omega
      have hfin := ha.out.fin HF.out n1
      have HFIN := Lib.hid hfin
      obtain ⟨⟨r0, r1, r2, r3, r4⟩, f0, f1, f2, f3, f4⟩ := hr.out.five
      obtain ⟨⟨z0, z1, z2, z3, z4⟩, y0, y1, y2, y3, y4⟩ := hz.out.five
      clear hr hfin ha hz
      go_wp2_with fail
      refine bodyPost_ret (v := fxv h) (by simp [results, Try.results102, go_sem, z0, z1, z2, z3, z4, hw2]) rfl ⟨_, rfl, HFIN.out, ?_⟩
      exact set5_below hb.out (by omega) _ _ _ _ _

end Go.Proofs.Ytnpkblidlmkagaa

/- The contract of Times: five limbs. -/
set_option linter.unusedSimpArgs false
set_option linter.unusedVariables false
namespace Go.Proofs.Ytnpkblidlmkagaa
open Go.RowKit Fl

/-- The state of Times ahead of limb k of b, behind the limbs of a below i. -/
structure MulAt (a b p : Nat → Int) (i k : Nat) (c : Int) : Prop where
  v : val p 10 + c * 2 ^ (30 * (i + k)) = val a i * val b 5 + a i * val b k * 2 ^ (30 * i)
  lo : ∀ j, j < 10 → 0 ≤ p j ∧ p j < 1073741824
  z : ∀ j, i + 5 ≤ j → j < 10 → p j = 0
  c0 : 0 ≤ c
  c1 : c < 1073741824

theorem MulAt.start (a b : Nat → Int) : MulAt a b (fun _ => 0) 0 0 0 :=
  ⟨by rw [val_zero, show val a 0 = 0 from rfl, show val b 0 = 0 from rfl]; simp, fun j hj => by omega, fun j h1 h2 => rfl, by omega, by omega⟩

theorem MulAt.step {a b p : Nat → Int} {i k : Nat} {c : Int} (h : MulAt a b p i k c) (hi : i < 5) (hk : k < 5) (ha : 0 ≤ a i ∧ a i < 1073741824) (hb : 0 ≤ b k ∧ b k < 1073741824) :
    (0 ≤ p (i + k) + a i * b k + c ∧ p (i + k) + a i * b k + c ≤ 1152921504606846975) ∧ 0 ≤ a i * b k ∧ MulAt a b (upd p (i + k) ((p (i + k) + a i * b k + c) % 1073741824)) i (k + 1) ((p (i + k) + a i * b k + c) / 1073741824) := by
  have hp := h.lo (i + k) (by omega)
  have hab0 : 0 ≤ a i * b k := Int.mul_nonneg ha.1 hb.1
  have hab1 : a i * b k ≤ 1073741823 * 1073741823 := Int.mul_le_mul (by omega) (by omega) hb.1 (by omega)
  have c0 := h.c0
  have c1 := h.c1
  have hv := h.v
  obtain ⟨x, hx⟩ : ∃ x, x = a i * b k := ⟨_, rfl⟩
  rw [← hx] at hab0 hab1 ⊢
  refine ⟨by omega, hab0, ?_, ?_, ?_, by omega, by omega⟩
  · have e1 := val_split p (i + k) ((p (i + k) + x + c) % 1073741824) 10 (by omega)
    have e2 : val b (k + 1) = val b k + b k * 2 ^ (30 * k) := rfl
    have e3 : (2 : Int) ^ (30 * (i + (k + 1))) = 1073741824 * 2 ^ (30 * (i + k)) := by
      rw [show 30 * (i + (k + 1)) = 30 + 30 * (i + k) by omega, Int.pow_add]; rfl
    have e4 : (2 : Int) ^ (30 * (i + k)) = 2 ^ (30 * k) * 2 ^ (30 * i) := by rw [show 30 * (i + k) = 30 * k + 30 * i by omega, Int.pow_add]
    have e5 := Int.mul_ediv_add_emod (p (i + k) + x + c) 1073741824
    have e6 : a i * (val b k + b k * 2 ^ (30 * k)) * 2 ^ (30 * i) = a i * val b k * 2 ^ (30 * i) + x * 2 ^ (30 * (i + k)) := by
      rw [hx, e4, Int.mul_add, Int.add_mul, ← Int.mul_assoc (a i) (b k), Int.mul_assoc (a i * b k)]
    rw [e1, e2, e3, e6]
    generalize (2 : Int) ^ (30 * (i + k)) = P at *
    generalize a i * val b k * 2 ^ (30 * i) = Y at *
    generalize val a i * val b 5 = Z at *
    generalize val p 10 = V at *
    obtain ⟨q, hq⟩ : ∃ q, q = (p (i + k) + x + c) / 1073741824 := ⟨_, rfl⟩
    obtain ⟨s, hs⟩ : ∃ s, s = (p (i + k) + x + c) % 1073741824 := ⟨_, rfl⟩
    rw [← hq, ← hs] at e5 ⊢
    have e7 : V + (s - p (i + k)) * P + q * (1073741824 * P) = V + ((1073741824 * q + s) - p (i + k)) * P := by
      rw [Int.sub_mul, Int.sub_mul, Int.add_mul, ← Int.mul_assoc q, Int.mul_comm q]
      omega
    rw [e7, e5, show p (i + k) + x + c - p (i + k) = x + c by omega, Int.add_mul]
    omega
  · intro j hj
    unfold upd
    split
    · omega
    · exact h.lo j hj
  · intro j h1 h2
    unfold upd
    rw [if_neg (by omega)]
    exact h.z j h1 h2

theorem MulAt.next {a b p : Nat → Int} {i : Nat} {c : Int} (h : MulAt a b p i 5 c) (hi : i < 5) : p (i + 5) + c = c ∧ MulAt a b (upd p (i + 5) (p (i + 5) + c)) (i + 1) 0 0 := by
  have hz := h.z (i + 5) (Nat.le_refl _) (by omega)
  have c0 := h.c0
  have c1 := h.c1
  refine ⟨by omega, ?_, ?_, ?_, by omega, by omega⟩
  · have e1 := val_split p (i + 5) (p (i + 5) + c) 10 (by omega)
    have e2 : val a (i + 1) = val a i + a i * 2 ^ (30 * i) := rfl
    have hv := h.v
    have e3 : val b 0 = 0 := rfl
    rw [e1, e2, e3, Int.mul_zero, Int.zero_mul, show p (i + 5) + c - p (i + 5) = c by omega, Int.add_mul, hv, Int.mul_assoc (a i), Int.mul_assoc (a i), Int.mul_comm (val b 5)]
  · intro j hj
    unfold upd
    split
    · omega
    · exact h.lo j hj
  · intro j h1 h2
    unfold upd
    rw [if_neg (by omega)]
    exact h.z j (by omega) h2

theorem ipow_mono {a b : Nat} (h : a ≤ b) : (2 : Int) ^ a ≤ 2 ^ b := by
  have e1 : (2 : Int) ^ a = ((2 ^ a : Nat) : Int) := (Int.natCast_pow _ _).symm
  have e2 : (2 : Int) ^ b = ((2 ^ b : Nat) : Int) := (Int.natCast_pow _ _).symm
  rw [e1, e2]
  exact Int.ofNat_le.2 (pow_mono h)

/-- What is taken of the product. -/
theorem MulAt.fin {a b p : Nat → Int} {A B : Int} (h : MulAt a b p 5 0 0) (ha : Fx a A) (hb : Fx b B) (hA : 0 ≤ A ∧ A < 2 ^ 125) (hB : 0 ≤ B ∧ B < 2 ^ 125) : Fx (fun j => p (j + 4)) (A * B / 2 ^ 120) := by
  have hv := h.v
  have e3 : val b 0 = 0 := rfl
  rw [e3, Int.mul_zero, Int.zero_mul, Int.add_zero, Int.add_zero, ha.v, hb.v] at hv
  have h0 := h.lo 0 (by omega)
  have h1 := h.lo 1 (by omega)
  have h2 := h.lo 2 (by omega)
  have h3 := h.lo 3 (by omega)
  have h4 := h.lo 4 (by omega)
  have h5 := h.lo 5 (by omega)
  have h6 := h.lo 6 (by omega)
  have h7 := h.lo 7 (by omega)
  have h8 := h.lo 8 (by omega)
  have h9 := h.lo 9 (by omega)
  have hAB : A * B < 2 ^ 125 * 2 ^ 125 := by
    have a1 : A * B ≤ A * 2 ^ 125 := Int.mul_le_mul_of_nonneg_left (by omega) hA.1
    have a2 : A * 2 ^ 125 < 2 ^ 125 * 2 ^ 125 := Int.mul_lt_mul_of_pos_right hA.2 (by decide)
    omega
  have v9 : val p 9 = p 0 + p 1 * 2 ^ 30 + p 2 * 2 ^ 60 + p 3 * 2 ^ 90 + 2 ^ 120 * val (fun j => p (j + 4)) 5 := by
    simp only [val, Nat.reduceAdd]
    omega
  have v5 : 0 ≤ val (fun j => p (j + 4)) 5 := by
    simp only [val, Nat.reduceAdd]
    omega
  have v10 : val p 10 = val p 9 + p 9 * 2 ^ (30 * 9) := rfl
  have hE : (2 : Int) ^ 125 * 2 ^ 125 ≤ 2 ^ (30 * 9) := by
    rw [← Int.pow_add]
    exact ipow_mono (by decide)
  have hp9 : p 9 = 0 := by
    apply Decidable.byContradiction
    intro hc
    generalize (2 : Int) ^ (30 * 9) = E at *
    have e : (2 : Int) ^ 125 * 2 ^ 125 = 1809251394333065553493296640760748560207343510400633813116524750123642650624 := by decide
    rw [e] at hAB hE
    have : 1 * E ≤ p 9 * E := Int.mul_le_mul_of_nonneg_right (by omega) (by omega)
    omega
  have hval : A * B = (p 0 + p 1 * 2 ^ 30 + p 2 * 2 ^ 60 + p 3 * 2 ^ 90) + 2 ^ 120 * val (fun j => p (j + 4)) 5 := by
    rw [← hv, v10, v9, hp9, Int.zero_mul, Int.add_zero]
  refine ⟨?_, fun j hj => h.lo (j + 4) (by omega)⟩
  rw [hval, Int.add_mul_ediv_left _ _ (by decide), Int.ediv_eq_zero_of_lt (by omega) (by omega)]
  omega

end Go.Proofs.Ytnpkblidlmkagaa

/- The contract of Times: the walk. -/
set_option linter.unusedSimpArgs false
set_option linter.unusedVariables false
namespace Go.Proofs.Ytnpkblidlmkagaa
open Go.RowKit Fl

/-- The boxes of Times: a, b, the result, the product's limbs. -/
structure TMs (a b p : Nat → Int) (w wr : World) : Prop where
  ra : RowI wr w.heap.size 5 a
  rb : RowI wr (w.heap.size + 1) 5 b
  rz : RowI wr (w.heap.size + 1 + 1) 5 (fun _ => 0)
  rp : RowI wr (w.heap.size + 1 + 1 + 1) 10 p
  bw : Below w.heap.size w wr

theorem TMs.set {a b p : Nat → Int} {w wr : World} (h : TMs a b p w wr) {j : Nat} (hj : j < 10) (v : Int) : TMs a b (upd p j v) w (wr.setCell ⟨w.heap.size + 1 + 1 + 1, j, none⟩ (.int .i64 v)) :=
  ⟨h.ra.setOther _ (by show w.heap.size + 1 + 1 + 1 ≠ _; omega) _, h.rb.setOther _ (by show w.heap.size + 1 + 1 + 1 ≠ _; omega) _, h.rz.setOther _ (by show w.heap.size + 1 + 1 + 1 ≠ _; omega) _, h.rp.set hj v,
    h.bw.setCell (p := ⟨w.heap.size + 1 + 1 + 1, j, none⟩) (by show w.heap.size ≤ w.heap.size + 1 + 1 + 1; omega) _⟩
theorem TMs.drew {a b p : Nat → Int} {w wr : World} (h : TMs a b p w wr) : TMs a b p w wr.drew := ⟨h.ra, h.rb, h.rz, h.rp, h.bw.drew⟩

theorem TMs.drewN {a b p : Nat → Int} {w wr : World} (h : TMs a b p w wr) (n : Nat) : TMs a b p w (wr.drewN n) := by
  induction n generalizing wr with
  | zero => exact h
  | succ n ih => first | exact (ih h).drew | exact ih h.drew

theorem row10_new (w : World) (t : TypeId) : RowI (w.alloc (.cells #[.int .i64 0, .int .i64 0, .int .i64 0, .int .i64 0, .int .i64 0, .int .i64 0, .int .i64 0, .int .i64 0, .int .i64 0, .int .i64 0] t)) w.heap.size 10 (fun _ => 0) := by
  intro i hi
  rcases (show i = 0 ∨ i = 1 ∨ i = 2 ∨ i = 3 ∨ i = 4 ∨ i = 5 ∨ i = 6 ∨ i = 7 ∨ i = 8 ∨ i = 9 by omega) with rfl | rfl | rfl | rfl | rfl | rfl | rfl | rfl | rfl | rfl <;> simp [go_sem]

set_option maxRecDepth 100000 in
set_option maxHeartbeats 8000000 in
theorem times5_any (a b : Nat → Int) (A B : Int) (w : World) (ha : Fx a A) (hb : Fx b B) (hA : 0 ≤ A ∧ A < 2 ^ 125) (hB : 0 ≤ B ∧ B < 2 ^ 125) :
    Calls Try.prog 104 #[fxv a, fxv b] w fun z w' => ∃ h, z = .returned (fxv h) ∧ Fx h (A * B / 2 ^ 120) ∧ Below w.heap.size w w' := by
  have HA := Lib.hid ha
  have HB := Lib.hid hb
  have HAA := Lib.hid hA
  have HBB := Lib.hid hB
  clear ha hb hA hB
  have T0 : Hid (TMs a b (fun _ => 0) w ((((w.alloc (.cells #[.int .i64 (a 0), .int .i64 (a 1), .int .i64 (a 2), .int .i64 (a 3), .int .i64 (a 4)] 58)).alloc (.cells #[.int .i64 (b 0), .int .i64 (b 1), .int .i64 (b 2), .int .i64 (b 3), .int .i64 (b 4)] 58)).alloc (.cells #[.int .i64 0, .int .i64 0, .int .i64 0, .int .i64 0, .int .i64 0] 58)).alloc (.cells #[.int .i64 0, .int .i64 0, .int .i64 0, .int .i64 0, .int .i64 0, .int .i64 0, .int .i64 0, .int .i64 0, .int .i64 0, .int .i64 0] 140))) := Lib.hid ⟨(((row5_new w a 58).alloc _).alloc _).alloc _,
    RowI.alloc (RowI.alloc (by
      have := row5_new (w.alloc (.cells #[.int .i64 (a 0), .int .i64 (a 1), .int .i64 (a 2), .int .i64 (a 3), .int .i64 (a 4)] 58)) b 58
      simpa using this) _) _,
    RowI.alloc (by
      have := row5_new ((w.alloc (.cells #[.int .i64 (a 0), .int .i64 (a 1), .int .i64 (a 2), .int .i64 (a 3), .int .i64 (a 4)] 58)).alloc (.cells #[.int .i64 (b 0), .int .i64 (b 1), .int .i64 (b 2), .int .i64 (b 3), .int .i64 (b 4)] 58)) (fun _ => 0) 58
      simpa using this) _,
    (by
      have := row10_new (((w.alloc (.cells #[.int .i64 (a 0), .int .i64 (a 1), .int .i64 (a 2), .int .i64 (a 3), .int .i64 (a 4)] 58)).alloc (.cells #[.int .i64 (b 0), .int .i64 (b 1), .int .i64 (b 2), .int .i64 (b 3), .int .i64 (b 4)] 58)).alloc (.cells #[.int .i64 0, .int .i64 0, .int .i64 0, .int .i64 0, .int .i64 0] 58)) 140
      simpa using this),
    ((((Below.refl _ w).alloc (Nat.le_refl _) _).alloc (by simp) _).alloc (by simp; omega) _).alloc (by simp; omega) _⟩
  go_enter Try.func104, Try.ntmps104
  go_wp2_with fail
  go_loopw [6, 7, 8, 9] (fun i c k v wr => ∃ (n : Nat) (p : Nat → Int), n ≤ 5 ∧ i = .int .i64 n ∧ Hid (TMs a b p w wr) ∧ Hid (MulAt a b p n 0 0)) (fun i _ _ _ _ => 5 - (intOf i).toNat)
  case atStart => exact ⟨0, _, by omega, rfl, T0, Lib.hid (MulAt.start a b)⟩
  case round =>
    obtain ⟨n, p, hn, rfl, ht, hm⟩ := hrel
    clear T0
    by_cases hlt : n < 5
    · go_wp2_with fail
      go_loopw [7, 8, 9] (fun c k v wi => ∃ (m : Nat) (q : Nat → Int) (r : Int), m ≤ 5 ∧ k = .int .i64 m ∧ c = .int .i64 r ∧ Hid (TMs a b q w wi) ∧ Hid (MulAt a b q n m r)) (fun _ k _ _ => 5 - (intOf k).toNat)
      case atStart => exact ⟨0, p, 0, by omega, rfl, rfl, ht, hm⟩
      case round =>
        obtain ⟨m, q, r, hm5, rfl, rfl, hT, hM⟩ := hrel
        clear ht hm
        by_cases hml : m < 5
        · obtain ⟨r0, f0⟩ := hT.out.rp (n + m) (by omega)
          obtain ⟨r1, f1⟩ := hT.out.ra n hlt
          obtain ⟨r2, f2⟩ := hT.out.rb m hml
          have l0 := hT.out.rp.lt (by omega)
          have hst := hM.out.step hlt hml (HA.out.lo n hlt) (HB.out.lo m hml)
          obtain ⟨⟨v0, v1⟩, x0, hnx⟩ := hst
          have p0 := (hM.out.lo (n + m) (by omega)).1
          have p1 := (hM.out.lo (n + m) (by omega)).2
          have c0 := hM.out.c0
          obtain ⟨x, hx⟩ : ∃ x, x = a n * b m := ⟨_, rfl⟩
          rw [← hx] at v0 v1 x0 hnx
          have wr0 : IntKind.i64.wrap ((n : Int) + m) = ((n + m : Nat) : Int) := by rw [IntKind.wrap_i64]; omega
          have wr1 : IntKind.i64.wrap (a n * b m) = x := by rw [← hx, IntKind.wrap_i64]; omega
          have wr2 : IntKind.i64.wrap (q (n + m) + x) = q (n + m) + x := by rw [IntKind.wrap_i64]; omega
          obtain ⟨v, hv⟩ : ∃ v, v = q (n + m) + x + r := ⟨_, rfl⟩
          have wr3 : IntKind.i64.wrap (q (n + m) + x + r) = v := by rw [hv, IntKind.wrap_i64]; omega
          rw [← hv] at hnx
          have a1 := i64_low30 v
          have HN := Lib.hid hnx
          have HT := Lib.hid (fun nq => (hT.out.drewN nq).set (show n + m < 10 by omega) (v % 1073741824))
          have hnm : ((n + m : Nat) : Int) < 10 := by omega
          have hnm0 : (0 : Int) ≤ ((n + m : Nat) : Int) := by omega
          have hn5 : (n : Int) < 5 := by omega
          have hm6 : (m : Int) < 5 := by omega
          have HV := Lib.hid hv
          have HX := Lib.hid hx
          clear hT hM hnx hv hx v0 v1 x0 p0 p1 c0
          go_upto_region 9 with fail
          go_quiet (fail)
          go_wp2_with (first | simp only [wr0, wr1, wr2, wr3, a1] | fail)
          exact ⟨⟨m + 1, _, _, by omega, by go_num, rfl, Lib.hid (HT.out _), HN⟩, by simp [intOf]; omega⟩
        · obtain rfl : m = 5 := by omega
          obtain ⟨r0, f0⟩ := hT.out.rp (n + 5) (by omega)
          have l0 := hT.out.rp.lt (by omega)
          obtain ⟨e0, hnx⟩ := hM.out.next hlt
          have c0 := hM.out.c0
          have c1 := hM.out.c1
          have wr1 : wrap64 (q (n + 5) + r) = q (n + 5) + r := by rw [e0]; unfold wrap64; omega
          have HN := Lib.hid hnx
          have HT := Lib.hid (hT.out.set (show n + 5 < 10 by omega) (q (n + 5) + r))
          have hn5 : (n : Int) < 5 := by omega
          clear hT hM hnx e0 c0 c1
          go_wp2_with (first | simp only [wr1] | fail)
          exact ⟨⟨n + 1, _, by omega, by go_num, HT, HN⟩, by simp [intOf]; omega⟩
    · obtain rfl : n = 5 := by omega
      have FIN := Lib.hid (hm.out.fin HA.out HB.out HAA.out HBB.out)
      obtain ⟨wo, hwo⟩ : ∃ wo, wo = wr := ⟨_, rfl⟩
      subst hwo
      have hT := ht.out
      have l0 := hT.rp.lt (by omega)
      have ZB := Lib.hid hT.bw.size
      obtain ⟨P, hP⟩ : ∃ P : Nat → Int, P = fun j => p (j + 4) := ⟨_, rfl⟩
      have HP := Lib.hid (fun j => (congrFun hP j : P j = p (j + 4)))
      rw [← hP] at FIN
      have O0 : Hid (RowI (wo.alloc (.cells #[.int .i64 0, .int .i64 0, .int .i64 0, .int .i64 0, .int .i64 0] 58)) wo.heap.size 5 (mix P (fun _ => 0) 0)) := Lib.hid (by rw [mix_zero]; exact row5_new wo (fun _ => 0) 58)
      have P0 := Lib.hid (hT.rp.alloc (.cells #[.int .i64 0, .int .i64 0, .int .i64 0, .int .i64 0, .int .i64 0] 58))
      have Z0 := Lib.hid (hT.rz.alloc (.cells #[.int .i64 0, .int .i64 0, .int .i64 0, .int .i64 0, .int .i64 0] 58))
      have B0 := Lib.hid (hT.bw.alloc hT.bw.size (.cells #[.int .i64 0, .int .i64 0, .int .i64 0, .int .i64 0, .int .i64 0] 58))
      have lz := hT.rz.lt (by omega)
      clear hm ht hT hP
      go_wp2_with fail
      go_loopw [11] (fun i wi => ∃ m : Nat, m ≤ 5 ∧ i = .int .i64 m ∧ Hid (RowI wi wo.heap.size 5 (mix P (fun _ => 0) m)) ∧ Hid (RowI wi (w.heap.size + 1 + 1 + 1) 10 p) ∧ Hid (RowI wi (w.heap.size + 1 + 1) 5 (fun _ => 0)) ∧ Hid (Below w.heap.size w wi)) (fun i _ => 5 - (intOf i).toNat)
      case atStart => exact ⟨0, by omega, rfl, O0, P0, Z0, B0⟩
      case round =>
        obtain ⟨m, hm, rfl, ho, hp, hz, hb⟩ := hrel
        clear O0 P0 Z0 B0
        have lo := ho.out.lt (by omega)
        have zb := ZB.out
        by_cases hml : m < 5
        · obtain ⟨r0, f0⟩ := ho.out m hml
          obtain ⟨r1, f1⟩ := hp.out (m + 4) (by omega)
          have HO : Hid (RowI _ wo.heap.size 5 (mix P (fun _ => 0) (m + 1))) := Lib.hid (by
            rw [← mix_step P (fun _ => 0) m (p (m + 4)) (HP.out m).symm]
            exact ho.out.set hml _)
          have HPP := Lib.hid (hp.out.setOther ⟨wo.heap.size, m, none⟩ (by show wo.heap.size ≠ _; omega) (.int .i64 (p (m + 4))))
          have HZ := Lib.hid (hz.out.setOther ⟨wo.heap.size, m, none⟩ (by show wo.heap.size ≠ _; omega) (.int .i64 (p (m + 4))))
          have HBW := Lib.hid (hb.out.setCell (p := ⟨wo.heap.size, m, none⟩) (by show w.heap.size ≤ wo.heap.size; omega) (.int .i64 (p (m + 4))))
          clear ho hp hz hb
          go_wp2_with fail
          exact ⟨⟨m + 1, by omega, by go_num, HO, HPP, HZ, HBW⟩, by simp [intOf]; omega⟩
        · obtain rfl : m = 5 := by omega
          have hP5 : RowI wr wo.heap.size 5 P := ho.out.congr (fun i hi => by unfold mix; rw [if_pos hi])
          obtain ⟨⟨r0, r1, r2, r3, r4⟩, f0, f1, f2, f3, f4⟩ := hP5.five
          obtain ⟨⟨z0, z1, z2, z3, z4⟩, y0, y1, y2, y3, y4⟩ := hz.out.five
          have lz2 := hz.out.lt (by omega)
          clear hP5 ho hp hz
          go_wp2_with fail
          refine bodyPost_ret (v := fxv P) (by simp [results, Try.results104, go_sem, z0, z1, z2, z3, z4, lz2]) rfl ⟨_, rfl, FIN.out, ?_⟩
          exact set5_below hb.out (by omega) _ _ _ _ _

end Go.Proofs.Ytnpkblidlmkagaa

/- Plus, Minus, Often by their values. -/
set_option linter.unusedSimpArgs false
set_option linter.unusedVariables false
namespace Go.Proofs.Ytnpkblidlmkagaa
open Go.RowKit Fl

theorem Carried.fx {f h : Nat → Int} {T : Int} (c : Carried f h) (hT : val f 5 = T) (h0 : 0 ≤ T) (h1 : T < 2 ^ 150) : Fx h T := by
  have hv := c.v
  rw [hT] at hv
  have l0 := c.lo 0 (by omega)
  have l1 := c.lo 1 (by omega)
  have l2 := c.lo 2 (by omega)
  have l3 := c.lo 3 (by omega)
  have h4 : 0 ≤ h 4 ∧ h 4 < 1073741824 := by
    simp only [val, Nat.reduceAdd] at hv
    have e : (2 : Int) ^ 150 = 1427247692705959881058285969449495136382746624 := by decide
    rw [e] at h1
    constructor <;> omega
  refine ⟨hv, fun j hj => ?_⟩
  rcases (show j < 4 ∨ j = 4 by omega) with g | rfl
  · exact c.lo j g
  · exact h4

theorem Fx.nonneg {f : Nat → Int} {V : Int} (h : Fx f V) : 0 ≤ V ∧ V < 2 ^ 150 := by
  have hv := h.v
  have l0 := h.lo 0 (by omega)
  have l1 := h.lo 1 (by omega)
  have l2 := h.lo 2 (by omega)
  have l3 := h.lo 3 (by omega)
  have l4 := h.lo 4 (by omega)
  have e : (2 : Int) ^ 150 = 1427247692705959881058285969449495136382746624 := by decide
  rw [e]
  simp only [val, Nat.reduceAdd] at hv
  constructor <;> omega

theorem plus_fx (f g : Nat → Int) (V W : Int) (w : World) (hf : Fx f V) (hg : Fx g W) (hs : V + W < 2 ^ 150) :
    Calls Try.prog 103 #[fxv f, fxv g] w fun z w' => ∃ h, z = .returned (fxv h) ∧ Fx h (V + W) ∧ Below w.heap.size w w' := by
  have hA : ∀ j, j < 5 → (fun j => if j < 5 then f j + g j else 0) j = f j + g j := fun j hj => by simp [hj]
  refine (plus_any f g (fun j => if j < 5 then f j + g j else 0) w hA (fun j => ?_)).mono ?_
  · show _ ≤ (if j < 5 then f j + g j else 0) ∧ (if j < 5 then f j + g j else 0) ≤ _
    split
    · have := hf.lo j (by omega)
      have := hg.lo j (by omega)
      omega
    · omega
  · rintro z w' ⟨h, rfl, hc, hb⟩
    refine ⟨h, rfl, hc.fx ?_ (by have := hf.nonneg; have := hg.nonneg; omega) hs, hb⟩
    rw [val_congr _ (fun j => f j + g j) 5 hA, val_add, hf.v, hg.v]

theorem minus_fx (f g : Nat → Int) (V W : Int) (w : World) (hf : Fx f V) (hg : Fx g W) (hs : W ≤ V) :
    Calls Try.prog 105 #[fxv f, fxv g] w fun z w' => ∃ h, z = .returned (fxv h) ∧ Fx h (V - W) ∧ Below w.heap.size w w' := by
  have hA : ∀ j, j < 5 → (fun j => if j < 5 then f j - g j else 0) j = f j - g j := fun j hj => by simp [hj]
  refine (minus_any f g (fun j => if j < 5 then f j - g j else 0) w hA (fun j => ?_)).mono ?_
  · show _ ≤ (if j < 5 then f j - g j else 0) ∧ (if j < 5 then f j - g j else 0) ≤ _
    split
    · have := hf.lo j (by omega)
      have := hg.lo j (by omega)
      omega
    · omega
  · rintro z w' ⟨h, rfl, hc, hb⟩
    refine ⟨h, rfl, hc.fx ?_ (by omega) (by have := hf.nonneg; have := hg.nonneg; omega), hb⟩
    rw [val_congr _ (fun j => f j - g j) 5 hA, val_sub, hf.v, hg.v]

theorem often_fx (f : Nat → Int) (V n : Int) (w : World) (hf : Fx f V) (n0 : 0 ≤ n) (n1 : n ≤ 1073741824) (hs : V * n < 2 ^ 150) :
    Calls Try.prog 101 #[fxv f, .int .i64 n] w fun z w' => ∃ h, z = .returned (fxv h) ∧ Fx h (V * n) ∧ Below w.heap.size w w' := by
  have hA : ∀ j, j < 5 → (fun j => if j < 5 then f j * n else 0) j = f j * n := fun j hj => by simp [hj]
  refine (often_any f (fun j => if j < 5 then f j * n else 0) n w hA (fun j => ?_)).mono ?_
  · show _ ≤ (if j < 5 then f j * n else 0) ∧ (if j < 5 then f j * n else 0) ≤ _
    split
    · have h1 := hf.lo j (by omega)
      have h2 : 0 ≤ f j * n := Int.mul_nonneg h1.1 n0
      have h3 : f j * n ≤ 1073741824 * 1073741824 := Int.mul_le_mul (by omega) n1 n0 (by omega)
      omega
    · omega
  · rintro z w' ⟨h, rfl, hc, hb⟩
    refine ⟨h, rfl, hc.fx ?_ (Int.mul_nonneg hf.nonneg.1 n0) hs, hb⟩
    rw [val_congr _ (fun j => f j * n) 5 hA, val_mul, hf.v]

end Go.Proofs.Ytnpkblidlmkagaa

/- What the document's Near reckons, by values. -/
set_option linter.unusedSimpArgs false
set_option linter.unusedVariables false
namespace Go.Proofs.Ytnpkblidlmkagaa
open Go.RowKit Fl

/-- 2^120, and an eighth of a turn. -/
abbrev one120 : Int := 1329227995784915872903807060280344576
abbrev eighth120 : Int := 192994332 + 320018826 * 1073741824 + 571903011 * 1152921504606846976 + 843314856 * 1237940039285380274899124224

/-- The terms. -/
def rT (X : Int) : Nat → Int
  | 0 => 1329227995784915872903807060280344576
  | i + 1 => rT X i * X / 2 ^ 120 / ((i : Int) + 1)

/-- The sums of the first k terms, those of a place mod 4 apart. -/
def rS (X : Int) : Nat → Nat → Int
  | 0, _ => 0
  | k + 1, j => if k % 4 = j then rS X k j + rT X k else rS X k j

theorem e120 : (2 : Int) ^ 120 = 1329227995784915872903807060280344576 := by decide

theorem rT_bd {X : Int} (h0 : 0 ≤ X) (h1 : X ≤ 1329227995784915872903807060280344576) : ∀ i, 0 ≤ rT X i ∧ rT X i ≤ 1329227995784915872903807060280344576 ∧ rT X (i + 1) ≤ rT X i := by
  have step : ∀ i, 0 ≤ rT X i → 0 ≤ rT X (i + 1) ∧ rT X (i + 1) ≤ rT X i := by
    intro i hi
    have e : rT X (i + 1) = rT X i * X / 2 ^ 120 / ((i : Int) + 1) := rfl
    have p0 : 0 ≤ rT X i * X := Int.mul_nonneg hi h0
    have p1 : rT X i * X ≤ rT X i * 1329227995784915872903807060280344576 := Int.mul_le_mul_of_nonneg_left h1 hi
    rw [e, e120]
    obtain ⟨y, hy⟩ : ∃ y, y = rT X i * X / 1329227995784915872903807060280344576 := ⟨_, rfl⟩
    have y0 : 0 ≤ y := by rw [hy]; exact Int.ediv_nonneg p0 (by omega)
    have y1 : y ≤ rT X i := by rw [hy]; omega
    rw [← hy]
    have z0 : 0 ≤ y / ((i : Int) + 1) := Int.ediv_nonneg y0 (by omega)
    have z1 : y / ((i : Int) + 1) ≤ y := Int.ediv_le_self _ y0
    omega
  have all : ∀ i, 0 ≤ rT X i ∧ rT X i ≤ 1329227995784915872903807060280344576 := by
    intro i
    induction i with
    | zero => exact ⟨by show (0 : Int) ≤ 1329227995784915872903807060280344576; omega, Int.le_refl _⟩
    | succ i ih => have := step i ih.1; omega
  intro i
  exact ⟨(all i).1, (all i).2, (step i (all i).1).2⟩

theorem rS_bd {X : Int} (h0 : 0 ≤ X) (h1 : X ≤ 1329227995784915872903807060280344576) (j : Nat) : ∀ k, 0 ≤ rS X k j ∧ rS X k j ≤ k * 1329227995784915872903807060280344576 := by
  intro k
  induction k with
  | zero => exact ⟨by show (0 : Int) ≤ 0; omega, by show (0 : Int) ≤ _; omega⟩
  | succ k ih =>
    have hb := rT_bd h0 h1 k
    show 0 ≤ (if k % 4 = j then rS X k j + rT X k else rS X k j) ∧ (if k % 4 = j then rS X k j + rT X k else rS X k j) ≤ _
    split <;> omega

/-- Terms fall, so the sums of the first place outweigh those of the third. -/
theorem rS_le {X : Int} (h0 : 0 ≤ X) (h1 : X ≤ 1329227995784915872903807060280344576) (j : Nat) (hj : j < 2) : ∀ q, rS X (4 * q) (j + 2) ≤ rS X (4 * q) j := by
  intro q
  induction q with
  | zero => exact Int.le_refl _
  | succ q ih =>
    have b0 := rT_bd h0 h1 (4 * q)
    have b1 := rT_bd h0 h1 (4 * q + 1)
    have b2 := rT_bd h0 h1 (4 * q + 2)
    have e : 4 * (q + 1) = 4 * q + 1 + 1 + 1 + 1 := by omega
    rw [e]
    simp only [rS]
    have m0 : (4 * q) % 4 = 0 := by omega
    have m1 : (4 * q + 1) % 4 = 1 := by omega
    have m2 : (4 * q + 1 + 1) % 4 = 2 := by omega
    have m3 : (4 * q + 1 + 1 + 1) % 4 = 3 := by omega
    rw [m0, m1, m2, m3]
    have b3 := rT_bd h0 h1 (4 * q + 3)
    have c1 : rT X (4 * q + 2) ≤ rT X (4 * q + 1) := b1.2.2
    have c2 : rT X (4 * q + 3) ≤ rT X (4 * q + 2) := b2.2.2
    have c0 : rT X (4 * q + 1) ≤ rT X (4 * q) := b0.2.2
    rcases (show j = 0 ∨ j = 1 by omega) with rfl | rfl
    · simp
      simp at ih
      omega
    · simp
      simp at ih
      omega

end Go.Proofs.Ytnpkblidlmkagaa
