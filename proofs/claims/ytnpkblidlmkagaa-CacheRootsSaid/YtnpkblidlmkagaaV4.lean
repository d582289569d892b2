/- The contract of near. -/
import Derived.Test.YtnpkblidlmkagaaV3
set_option linter.unusedSimpArgs false
set_option linter.unusedVariables false
namespace Go.Proofs.Ytnpkblidlmkagaa
open Go.RowKit Fl

abbrev quarterP : Nat × Nat := (4605249457297304856, 4359948597267291143)

def nearF (r n : Int) : Option ((Nat × Nat) × (Nat × Nat)) :=
  if r = 0 then some ((oneW, 0), (0, 0)) else
  (mulF quarterP (wholeF r, 0)).bind fun m => (quoF m (wholeF n, 0)).bind fun x => (serO x 0 15).bind fun c => (serO x 1 14).bind fun s0 => (mulF s0 x).bind fun s => some (c, if r = n then c else s)

/-- What a cell holds. -/
@[irreducible] def was (w : World) (b o : Nat) : Value := (w.cell? ⟨b, o, none⟩).getD undef
theorem cell_was {w : World} {b o : Nat} {v : Value} (h : w.cell? ⟨b, o, none⟩ = some v) : w.cell? ⟨b, o, none⟩ = some (was w b o) := by
  unfold was; rw [h]; rfl

/-- What a region keeps that reads one box and writes two others. -/
structure RW (b4 b5 b6 : Nat) (x y : Value) (w w1 : World) : Prop where
  r : Two w1 b6 x y
  p : ∃ s t, Two w1 b4 s t
  q : ∃ s t, Two w1 b5 s t
  b : Below w.heap.size w w1
  l4 : w.heap.size ≤ b4
  l5 : w.heap.size ≤ b5
  n46 : b4 ≠ b6
  n56 : b5 ≠ b6
  n45 : b4 ≠ b5

theorem skN {b4 b5 b6 : Nat} {x y : Value} {w w1 : World} (h : Hid (RW b4 b5 b6 x y w w1)) :
    w1.cell? ⟨b6, 0, none⟩ = some x ∧ w1.cell? ⟨b6, 1, none⟩ = some y ∧ w1.cell? ⟨b4, 0, none⟩ = some (was w1 b4 0) ∧ w1.cell? ⟨b4, 1, none⟩ = some (was w1 b4 1) ∧ w1.frozen? ⟨b4, 0, none⟩ = false ∧ w1.frozen? ⟨b4, 1, none⟩ = false ∧
      w1.cell? ⟨b5, 0, none⟩ = some (was w1 b5 0) ∧ w1.cell? ⟨b5, 1, none⟩ = some (was w1 b5 1) ∧ w1.frozen? ⟨b5, 0, none⟩ = false ∧ w1.frozen? ⟨b5, 1, none⟩ = false ∧ Hid (RW b4 b5 b6 x y w w1) := by
  obtain ⟨p0, p1, _, _⟩ := h.out.r
  obtain ⟨s, t, q0, q1, q2, q3⟩ := h.out.p
  obtain ⟨u, v, r0, r1, r2, r3⟩ := h.out.q
  exact ⟨p0, p1, cell_was q0, cell_was q1, q2, q3, cell_was r0, cell_was r1, r2, r3, h⟩

theorem rw_drew {b4 b5 b6 : Nat} {x y : Value} {w w1 : World} (h : Hid (RW b4 b5 b6 x y w w1)) : Hid (RW b4 b5 b6 x y w w1.drew) :=
  Lib.hid ⟨h.out.r, h.out.p, h.out.q, h.out.b.drew, h.out.l4, h.out.l5, h.out.n46, h.out.n56, h.out.n45⟩
theorem rw_keep {b4 b5 b6 : Nat} {x y : Value} {w w1 w2 : World} (h : Hid (RW b4 b5 b6 x y w w1)) (hb : Below w1.heap.size w1 w2) : Hid (RW b4 b5 b6 x y w w2) := by
  obtain ⟨s, t, h4⟩ := h.out.p
  obtain ⟨u, v, h5⟩ := h.out.q
  exact Lib.hid ⟨h.out.r.keep hb, ⟨s, t, h4.keep hb⟩, ⟨u, v, h5.keep hb⟩, h.out.b.trans (hb.mono h.out.b.size), h.out.l4, h.out.l5, h.out.n46, h.out.n56, h.out.n45⟩
theorem sBN {A1 A2 A3 A4 A5 A6 A7 A8 A9 A10 : Prop} {b4 b5 b6 : Nat} {x y : Value} {w w1 w2 : World} (hb : Below w1.heap.size w1 w2) (h : A1 ∧ A2 ∧ A3 ∧ A4 ∧ A5 ∧ A6 ∧ A7 ∧ A8 ∧ A9 ∧ A10 ∧ Hid (RW b4 b5 b6 x y w w1)) : Hid (RW b4 b5 b6 x y w w2) :=
  rw_keep h.2.2.2.2.2.2.2.2.2.2 hb
theorem rw_set4 {b4 b5 b6 : Nat} {x y s t : Value} {w w1 : World} (h : Hid (RW b4 b5 b6 x y w w1)) : Hid (RW b4 b5 b6 x y w ((w1.setCell ⟨b4, 0, none⟩ s).setCell ⟨b4, 1, none⟩ t)) := by
  obtain ⟨u, v, h4⟩ := h.out.p
  obtain ⟨u', v', h5⟩ := h.out.q
  exact Lib.hid ⟨(h.out.r.setOther ⟨b4, 0, none⟩ h.out.n46 s).setOther ⟨b4, 1, none⟩ h.out.n46 t, ⟨s, t, h4.setBoth s t⟩, ⟨u', v', (h5.setOther ⟨b4, 0, none⟩ h.out.n45 s).setOther ⟨b4, 1, none⟩ h.out.n45 t⟩,
    (h.out.b.setCell (p := ⟨b4, 0, none⟩) h.out.l4 s).setCell (p := ⟨b4, 1, none⟩) h.out.l4 t, h.out.l4, h.out.l5, h.out.n46, h.out.n56, h.out.n45⟩
theorem rw_set5 {b4 b5 b6 : Nat} {x y s t : Value} {w w1 : World} (h : Hid (RW b4 b5 b6 x y w w1)) : Hid (RW b4 b5 b6 x y w ((w1.setCell ⟨b5, 0, none⟩ s).setCell ⟨b5, 1, none⟩ t)) := by
  obtain ⟨u, v, h4⟩ := h.out.p
  obtain ⟨u', v', h5⟩ := h.out.q
  exact Lib.hid ⟨(h.out.r.setOther ⟨b5, 0, none⟩ h.out.n56 s).setOther ⟨b5, 1, none⟩ h.out.n56 t, ⟨u, v, (h4.setOther ⟨b5, 0, none⟩ (fun e => h.out.n45 e.symm) s).setOther ⟨b5, 1, none⟩ (fun e => h.out.n45 e.symm) t⟩, ⟨s, t, h5.setBoth s t⟩,
    (h.out.b.setCell (p := ⟨b5, 0, none⟩) h.out.l5 s).setCell (p := ⟨b5, 1, none⟩) h.out.l5 t, h.out.l4, h.out.l5, h.out.n46, h.out.n56, h.out.n45⟩
/-- Behind both stores. -/
theorem rw_both {b4 b5 b6 : Nat} {x y s t s' t' : Value} {w w1 : World} (h : Hid (RW b4 b5 b6 x y w w1)) :
    Two ((((w1.setCell ⟨b4, 0, none⟩ s).setCell ⟨b4, 1, none⟩ t).setCell ⟨b5, 0, none⟩ s').setCell ⟨b5, 1, none⟩ t') b4 s t ∧ Two ((((w1.setCell ⟨b4, 0, none⟩ s).setCell ⟨b4, 1, none⟩ t).setCell ⟨b5, 0, none⟩ s').setCell ⟨b5, 1, none⟩ t') b5 s' t' ∧
      Below w.heap.size w ((((w1.setCell ⟨b4, 0, none⟩ s).setCell ⟨b4, 1, none⟩ t).setCell ⟨b5, 0, none⟩ s').setCell ⟨b5, 1, none⟩ t') := by
  obtain ⟨u, v, h4⟩ := h.out.p
  obtain ⟨u', v', h5⟩ := h.out.q
  have k := rw_set5 (s := s') (t := t') (rw_set4 (s := s) (t := t) h)
  refine ⟨((h4.setBoth s t).setOther ⟨b5, 0, none⟩ (fun e => h.out.n45 e.symm) s').setOther ⟨b5, 1, none⟩ (fun e => h.out.n45 e.symm) t', ?_, k.out.b⟩
  exact (((h5.setOther ⟨b4, 0, none⟩ h.out.n45 s).setOther ⟨b4, 1, none⟩ h.out.n45 t).setBoth s' t')
theorem rw_both' {b4 b5 b6 : Nat} {x y s t s' t' : Value} {w w1 : World} (h : Hid (RW b4 b5 b6 x y w w1)) :
    Two ((((w1.setCell ⟨b5, 0, none⟩ s').setCell ⟨b5, 1, none⟩ t').setCell ⟨b4, 0, none⟩ s).setCell ⟨b4, 1, none⟩ t) b4 s t ∧ Two ((((w1.setCell ⟨b5, 0, none⟩ s').setCell ⟨b5, 1, none⟩ t').setCell ⟨b4, 0, none⟩ s).setCell ⟨b4, 1, none⟩ t) b5 s' t' ∧
      Below w.heap.size w ((((w1.setCell ⟨b5, 0, none⟩ s').setCell ⟨b5, 1, none⟩ t').setCell ⟨b4, 0, none⟩ s).setCell ⟨b4, 1, none⟩ t) := by
  obtain ⟨u, v, h4⟩ := h.out.p
  obtain ⟨u', v', h5⟩ := h.out.q
  have k := rw_set4 (s := s) (t := t) (rw_set5 (s := s') (t := t') h)
  refine ⟨((h4.setOther ⟨b5, 0, none⟩ (fun e => h.out.n45 e.symm) s').setOther ⟨b5, 1, none⟩ (fun e => h.out.n45 e.symm) t').setBoth s t, ?_, k.out.b⟩
  exact (((h5.setBoth s' t').setOther ⟨b4, 0, none⟩ h.out.n45 s).setOther ⟨b4, 1, none⟩ h.out.n45 t)

theorem near_zero (n : Int) (w : World) :
    Calls Try.prog 82 #[.int .i64 0, .int .i64 n] w fun z w' => z = .returned (.tuple #[num oneW 0, num 0 0]) ∧ Below w.heap.size w w' := by
  go_enter Try.func82, Try.ntmps82
  go_wp2
  refine bodyPost_ret (v := .tuple #[num oneW 0, num 0 0]) (by simp [results, Try.results82, go_sem]) rfl ⟨rfl, ?_⟩
  exact ((Below.refl _ _).alloc (Nat.le_refl _) _).alloc (by simp) _

set_option maxRecDepth 100000 in
set_option maxHeartbeats 4000000 in
theorem near_not (r n : Int) (m1 m2 x y : Nat) (F G : Int → Nat) (s1 s2 : Nat) (w : World) (h0 : r ≠ 0) (hm : mulF quarterP (wholeF r, 0) = some (m1, m2)) (hq : quoF (m1, m2) (wholeF n, 0) = some (x, y))
    (hs : ∀ f w, f = 0 ∨ f = 1 → Calls Try.prog 99 #[num x y, .int .i64 f] w fun z w' => z = .returned (num (F f) (G f)) ∧ Below w.heap.size w w') (hp : mulF (F 1, G 1) (x, y) = some (s1, s2)) (e1 e2 : Nat) (he : (r = n ∧ e1 = F 0 ∧ e2 = G 0) ∨ (r ≠ n ∧ e1 = s1 ∧ e2 = s2)) :
    Calls Try.prog 82 #[.int .i64 r, .int .i64 n] w fun z w' => z = .returned (.tuple #[num (F 0) (G 0), num e1 e2]) ∧ Below w.heap.size w w' := by
  have HM := Lib.hid hm
  have HQ := Lib.hid hq
  have HS := Lib.hid hs
  have HP := Lib.hid hp
  clear hm hq hs hp
  go_enter Try.func82, Try.ntmps82
  go_wp2_with fail
  refine (quarter_any _).mono ?_
  rintro z w1 ⟨rfl, hb1⟩
  have A4 := Lib.hid (((Two.new w (.float .f64 0) (.float .f64 0) 25).alloc (.cells #[.float .f64 0, .float .f64 0] 25)).keep hb1)
  have A5 := Lib.hid ((Two.new' (w := w.alloc (.cells #[.float .f64 0, .float .f64 0] 25)) (b := w.heap.size + 1) (by simp) (.float .f64 0) (.float .f64 0) 25).keep hb1)
  have B1 : Hid (Below w.heap.size w w1) := Lib.hid ((((Below.refl _ w).alloc (Nat.le_refl _) _).alloc (by simp) _).trans (hb1.mono (by simp; omega)))
  clear hb1
  go_wp2_with fail
  refine (mul_any _ _ _ _ _ _ _ HM.out).mono ?_
  rintro z w2 ⟨rfl, hb2⟩
  have C4 := Lib.hid (A4.out.keep hb2)
  have C5 := Lib.hid (A5.out.keep hb2)
  have B2 : Hid (Below w.heap.size w w2) := Lib.hid (B1.out.trans (hb2.mono B1.out.size))
  clear hb2 A4 A5 B1
  go_wp2_with fail
  refine (quoF_any _ _ _ _ _ _ _ HQ.out).mono ?_
  rintro z w3 ⟨rfl, hb3⟩
  have A4 := Lib.hid ((C4.out.keep hb3).alloc (.cells #[.float .f64 x, .float .f64 y] 25))
  have A5 := Lib.hid ((C5.out.keep hb3).alloc (.cells #[.float .f64 x, .float .f64 y] 25))
  have B3 : Hid (Below w.heap.size w w3) := Lib.hid (B2.out.trans (hb3.mono B2.out.size))
  have B4 : Hid (Below w.heap.size w (w3.alloc (.cells #[.float .f64 x, .float .f64 y] 25))) := Lib.hid (B3.out.alloc B3.out.size _)
  have A6 := Lib.hid (Two.new w3 (.float .f64 x) (.float .f64 y) 25)
  have z5 := (C5.out.keep hb3).lt
  clear hb3 B2 C4 C5 B3
  go_upto_region 4 with fail
  obtain ⟨D, hD⟩ : ∃ D, D = w3.alloc (.cells #[.float .f64 x, .float .f64 y] 25) := ⟨_, rfl⟩
  rw [← hD] at A4 A5 A6 B4 ⊢
  clear hD
  have z4 := B4.out.size
  have z6 := A6.out.lt
  have lw : w.heap.size + 1 < w3.heap.size := z5
  have HRW : Hid (RW w.heap.size (w.heap.size + 1) w3.heap.size (.float .f64 x) (.float .f64 y) w D) := Lib.hid ⟨A6.out, ⟨_, _, A4.out⟩, ⟨_, _, A5.out⟩, B4.out, by omega, by omega, by omega, by omega, by omega⟩
  clear A4 A5 A6 B4
  go_cut [] from 20 to 25 (fun wx => Two wx w.heap.size (.float .f64 (F 0)) (.float .f64 (G 0)) ∧ Two wx (w.heap.size + 1) (.float .f64 s1) (.float .f64 s2) ∧ Below w.heap.size w wx)
  case first =>
    go_region_held3 (fun w1 => w1.cell? ⟨w3.heap.size, 0, none⟩ = some (.float .f64 x) ∧ w1.cell? ⟨w3.heap.size, 1, none⟩ = some (.float .f64 y) ∧ w1.cell? ⟨w.heap.size, 0, none⟩ = some (was w1 w.heap.size 0) ∧ w1.cell? ⟨w.heap.size, 1, none⟩ = some (was w1 w.heap.size 1) ∧ w1.frozen? ⟨w.heap.size, 0, none⟩ = false ∧ w1.frozen? ⟨w.heap.size, 1, none⟩ = false ∧
      w1.cell? ⟨w.heap.size + 1, 0, none⟩ = some (was w1 (w.heap.size + 1) 0) ∧ w1.cell? ⟨w.heap.size + 1, 1, none⟩ = some (was w1 (w.heap.size + 1) 1) ∧ w1.frozen? ⟨w.heap.size + 1, 0, none⟩ = false ∧ w1.frozen? ⟨w.heap.size + 1, 1, none⟩ = false ∧ Hid (RW w.heap.size (w.heap.size + 1) w3.heap.size (.float .f64 x) (.float .f64 y) w w1))
      (first
        | with_reducible exact skN (by assumption)
        | with_reducible exact skN (rw_drew (by assumption))
        | with_reducible exact skN (rw_set4 (by assumption))
        | with_reducible exact skN (rw_set5 (by assumption))
        | with_reducible exact skN (rw_set5 (rw_set4 (by assumption)))
        | with_reducible exact skN (rw_set4 (rw_set5 (by assumption)))
        | fail)
      (first
        | ((first | (go_at_call 99; refine (HS.out _ _ (by first | exact Or.inl rfl | exact Or.inr rfl)).mono ?_) | (go_at_call 35; refine (mul_any _ _ _ _ _ _ _ HP.out).mono ?_));
           rintro z w' ⟨rfl, hbb⟩; have hbw := (by with_reducible exact sBN hbb (by assumption) : Hid (RW w.heap.size (w.heap.size + 1) w3.heap.size (.float .f64 x) (.float .f64 y) w w'))))
    all_goals (go_wp2_with fail; go_meet)
    all_goals first
      | with_reducible exact rw_both (by assumption)
      | with_reducible exact rw_both' (by assumption)
      | fail
  case rest =>
    obtain ⟨p0, q0, bw⟩ := hcut
    have P0 := Lib.hid p0
    have Q0 := Lib.hid q0
    have BW := Lib.hid bw
    obtain ⟨a0, a1, a2, a3⟩ := p0
    obtain ⟨c0, c1, c2, c3⟩ := q0
    clear bw
    have lw0 := World.block_lt_of_cell? _ _ a0
    have lw1 := World.block_lt_of_cell? _ _ c0
    rcases he with ⟨hrn, rfl, rfl⟩ | ⟨hrn, rfl, rfl⟩
    · have hrb : (r == n) = true := by simpa using hrn
      go_wp2_with fail
      refine bodyPost_ret (v := .tuple #[num (F 0) (G 0), num (F 0) (G 0)]) (by simp [results, Try.results82, go_sem, a0, a1, c0, c1, lw0, lw1]) rfl ⟨rfl, ?_⟩
      exact (((BW.out.setCell (p := ⟨_, _, _⟩) (by show w.heap.size ≤ w.heap.size; omega) _).setCell (p := ⟨_, _, _⟩) (by show w.heap.size ≤ w.heap.size; omega) _).setCell (p := ⟨_, _, _⟩) (by show w.heap.size ≤ w.heap.size + 1; omega) _).setCell (p := ⟨_, _, _⟩) (by show w.heap.size ≤ w.heap.size + 1; omega) _
    · have hrb : (r == n) = false := by simpa using hrn
      go_wp2_with fail
      go_region
      go_wp2_with fail
      refine bodyPost_ret (v := .tuple #[num (F 0) (G 0), num e1 e2]) (by simp [results, Try.results82, go_sem, a0, a1, c0, c1, lw0, lw1]) rfl ⟨rfl, ?_⟩
      exact ((((BW.out.setCell (p := ⟨_, _, _⟩) (by show w.heap.size ≤ w.heap.size; omega) _).setCell (p := ⟨_, _, _⟩) (by show w.heap.size ≤ w.heap.size; omega) _).setCell (p := ⟨_, _, _⟩) (by show w.heap.size ≤ w.heap.size + 1; omega) _).setCell (p := ⟨_, _, _⟩) (by show w.heap.size ≤ w.heap.size + 1; omega) _).drew

theorem near_any (r n : Int) (a b c d : Nat) (w : World) (h : nearF r n = some ((a, b), (c, d))) :
    Calls Try.prog 82 #[.int .i64 r, .int .i64 n] w fun z w' => z = .returned (.tuple #[num a b, num c d]) ∧ Below w.heap.size w w' := by
  unfold nearF at h
  by_cases h0 : r = 0
  · rw [if_pos h0] at h
    simp only [Option.some.injEq, Prod.mk.injEq] at h
    obtain ⟨⟨rfl, rfl⟩, rfl, rfl⟩ := h
    subst h0
    exact near_zero n w
  · rw [if_neg h0] at h
    simp only [Option.bind_eq_some_iff, Option.some.injEq, Prod.mk.injEq] at h
    obtain ⟨⟨m1, m2⟩, hm, ⟨x, y⟩, hq, ⟨c1, c2⟩, hc, ⟨t1, t2⟩, ht, ⟨s1, s2⟩, hs, ⟨rfl, rfl⟩, he⟩ := h
    refine near_not r n m1 m2 x y (fun f => if f = 0 then a else t1) (fun f => if f = 0 then b else t2) s1 s2 w h0 hm hq (fun f w hf => ?_) hs c d ?_
    · rcases hf with rfl | rfl
      · exact ser_any x y a b 0 15 w (.inl ⟨rfl, rfl⟩) hc
      · exact ser_any x y t1 t2 1 14 w (.inr ⟨rfl, rfl⟩) ht
    · by_cases hrn : r = n
      · rw [if_pos hrn] at he
        simp only [Prod.mk.injEq] at he
        exact .inl ⟨hrn, he.1.symm, he.2.symm⟩
      · rw [if_neg hrn] at he
        simp only [Prod.mk.injEq] at he
        exact .inr ⟨hrn, he.1.symm, he.2.symm⟩

end Go.Proofs.Ytnpkblidlmkagaa
