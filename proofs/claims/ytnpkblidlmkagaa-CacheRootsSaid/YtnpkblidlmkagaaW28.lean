/- The contract of Quo. -/
import Derived.Test.YtnpkblidlmkagaaW20
import Derived.Test.YtnpkblidlmkagaaW2
set_option linter.unusedSimpArgs false
set_option linter.unusedVariables false
namespace Go.Proofs.Ytnpkblidlmkagaa
open Go.RowKit Fl

/-- What is left of x behind y times q. -/
def restF (x y q : Nat × Nat) : Option (Nat × Nat) := (mulF y q).bind fun m => addF x (fneg m.1, fneg m.2)
/-- One round of the quotient. -/
def quoStep (x y q : Nat × Nat) : Option (Nat × Nat) := (restF x y q).bind fun r => (fdiv r.1 y.1).bind fun d => addF q (d, 0)
def quoF (x y : Nat × Nat) : Option (Nat × Nat) := (fdiv x.1 y.1).bind fun d => (quoStep x y (d, 0)).bind fun q => quoStep x y q

/-- A world that holds three boxes. -/
theorem skQ {b0 b1 b2 : Nat} {t u x y s r : Value} {D w1 : World} (h0 : Two D b0 t u) (h1 : Two D b1 x y) (h2 : Two D b2 s r) (hb : Below D.heap.size D w1) :
    w1.cell? ⟨b0, 0, none⟩ = some t ∧ w1.cell? ⟨b0, 1, none⟩ = some u ∧ w1.cell? ⟨b1, 0, none⟩ = some x ∧ w1.cell? ⟨b1, 1, none⟩ = some y ∧ w1.cell? ⟨b2, 0, none⟩ = some s ∧ w1.cell? ⟨b2, 1, none⟩ = some r ∧ Hid (Below D.heap.size D w1) :=
  ⟨keep_cell hb h0.1, keep_cell hb h0.2.1, keep_cell hb h1.1, keep_cell hb h1.2.1, keep_cell hb h2.1, keep_cell hb h2.2.1, Lib.hid hb⟩

theorem sBQ {A B C E F G : Prop} {D W w' : World} (hbb : Below W.heap.size W w') (h : A ∧ B ∧ C ∧ E ∧ F ∧ G ∧ Hid (Below D.heap.size D W)) : Hid (Below D.heap.size D w') :=
  Lib.hid (h.2.2.2.2.2.2.out.trans (hbb.mono h.2.2.2.2.2.2.out.size))
theorem skQ1 {b0 b1 b2 : Nat} {t u x y s r : Value} {D w1 : World} (h0 : Two D b0 t u) (h1 : Two D b1 x y) (h2 : Two D b2 s r) (hb : Hid (Below D.heap.size D w1)) :
    w1.cell? ⟨b0, 0, none⟩ = some t ∧ w1.cell? ⟨b0, 1, none⟩ = some u ∧ w1.cell? ⟨b1, 0, none⟩ = some x ∧ w1.cell? ⟨b1, 1, none⟩ = some y ∧ w1.cell? ⟨b2, 0, none⟩ = some s ∧ w1.cell? ⟨b2, 1, none⟩ = some r ∧ Hid (Below D.heap.size D w1) := skQ h0 h1 h2 hb.out

theorem quoStep_parts {a b c d g h : Nat} {q : Nat × Nat} (hq : quoStep (a, b) (c, d) q = some (g, h)) :
    ∃ m1 m2 r1 r2 z, mulF (c, d) q = some (m1, m2) ∧ addF (a, b) (fneg m1, fneg m2) = some (r1, r2) ∧ fdiv r1 c = some z ∧ addF q (z, 0) = some (g, h) := by
  simp only [quoStep, restF, Option.bind_eq_some_iff] at hq
  obtain ⟨⟨r1, r2⟩, ⟨⟨m1, m2⟩, h1, h2⟩, z, h3, h4⟩ := hq
  exact ⟨m1, m2, r1, r2, z, h1, h2, h3, h4⟩

set_option maxRecDepth 100000 in
set_option maxHeartbeats 2000000 in
theorem quo_any (a b c d : Nat) (Q : Nat → Nat × Nat) (w : World) (h0 : fdiv a c = some (Q 0).1) (h00 : (Q 0).2 = 0) (hQ : ∀ k, k < 2 → quoStep (a, b) (c, d) (Q k) = some (Q (k + 1))) :
    Calls Try.prog 40 #[num a b, num c d] w fun z w' => z = .returned (num (Q 2).1 (Q 2).2) ∧ Below w.heap.size w w' := by
  replace h0 := hdiv h0
  have HQ := Lib.hid hQ
  have H00 := Lib.hid h00
  obtain ⟨e0, he0⟩ : ∃ e0, e0 = (Q 0).1 := ⟨_, rfl⟩
  rw [← he0] at h0
  have HE0 := Lib.hid he0
  clear hQ h00 he0
  go_enter Try.func40, Try.ntmps40
  go_wp2_with (first | simp only [h0] | fail)
  go_loopw [6, 13] (fun s i wr => ∃ k : Nat, k ≤ 2 ∧ i = .int .i64 k ∧ Hid (Two wr w.heap.size (.float .f64 a) (.float .f64 b)) ∧ Hid (Two wr (w.heap.size + 1) (.float .f64 c) (.float .f64 d)) ∧ Hid (Two wr (w.heap.size + 2) (.float .f64 0) (.float .f64 0)) ∧ Hid (Two wr (w.heap.size + 3) (.float .f64 (Q k).1) (.float .f64 (Q k).2)) ∧ Hid (Below w.heap.size w wr)) (fun _ i _ => 2 - (intOf i).toNat)
  case atStart =>
    refine ⟨0, by omega, rfl, Lib.hid ?_, Lib.hid ?_, Lib.hid ?_, Lib.hid ?_, Lib.hid ?_⟩
    · exact (((Two.new w _ _ _).alloc _).alloc _).alloc _
    · exact ((Two.new' (by simp) _ _ _).alloc _).alloc _
    · exact (Two.new' (by simp) _ _ _).alloc _
    · rw [H00.out, ← HE0.out]
      exact Two.new' (by simp) _ _ _
    · exact ((((Below.refl _ w).alloc (Nat.le_refl _) _).alloc (by simp) _).alloc (by simp; omega) _).alloc (by simp; omega) _
  case round =>
    obtain ⟨k, hk, rfl, t0, t1, t2, t3, hb⟩ := hrel
    by_cases hlt : k < 2
    · have hki : (k : Int) < 2 := by omega
      obtain ⟨D, hD⟩ : ∃ D, D = wr := ⟨_, rfl⟩
      rw [← hD] at t0 t1 t2 t3 hb ⊢
      clear hD
      obtain ⟨⟨g, h⟩, hgh⟩ : ∃ gh, gh = Q (k + 1) := ⟨_, rfl⟩
      obtain ⟨⟨e, f⟩, hef⟩ : ∃ ef, ef = Q k := ⟨_, rfl⟩
      obtain ⟨m1, m2, r1, r2, z, hm, hr, hz, hq⟩ := quoStep_parts (a := a) (b := b) (c := c) (d := d) (g := g) (h := h) (q := (e, f)) (by rw [hgh, hef]; exact HQ.out k hlt)
      replace hz := hdiv hz
      have HM := Lib.hid hm
      have HR := Lib.hid hr
      have HA := Lib.hid hq
      have HGH := Lib.hid hgh
      rw [← hef] at t3
      clear hm hr hq hgh hef
      have hzD : w.heap.size + 3 < D.heap.size := t3.out.lt
      go_upto_region 4 with fail
      go_cut [6] from 15 to 20 (fun s6 wx => ∃ p, s6 = .pointer (some ⟨p, 0, none⟩) ∧ Two wx p (.float .f64 r1) (.float .f64 r2) ∧ D.heap.size ≤ p ∧ Below D.heap.size D wx)
      case first =>
        go_region_held3 (fun w' => w'.cell? ⟨w.heap.size, 0, none⟩ = some (.float .f64 a) ∧ w'.cell? ⟨w.heap.size, 1, none⟩ = some (.float .f64 b) ∧ w'.cell? ⟨w.heap.size + 1, 0, none⟩ = some (.float .f64 c) ∧ w'.cell? ⟨w.heap.size + 1, 1, none⟩ = some (.float .f64 d) ∧ w'.cell? ⟨w.heap.size + 3, 0, none⟩ = some (.float .f64 e) ∧ w'.cell? ⟨w.heap.size + 3, 1, none⟩ = some (.float .f64 f) ∧ Hid (Below D.heap.size D w'))
          (first
            | with_reducible exact skQ1 t0.out t1.out t3.out (hid_drew _)
            | with_reducible exact skQ1 t0.out t1.out t3.out (hid_refl _)
            | with_reducible exact skQ1 t0.out t1.out t3.out (by assumption)
            | with_reducible exact skQ1 t0.out t1.out t3.out (hid_alloc (by assumption))
            | with_reducible exact skQ1 t0.out t1.out t3.out (hid_alloc (hid_refl _))
            | with_reducible exact skQ1 t0.out t1.out t3.out (hid_alloc (hid_drew _))
            | with_reducible exact skQ1 t0.out t1.out t3.out (hid_set (by assumption) (by omega))
            | with_reducible exact skQ1 t0.out t1.out t3.out (hid_set (hid_alloc (by assumption)) (by omega))
            | fail)
          (first
            | (first | (go_at_call 35; refine (mul_any _ _ _ _ _ _ _ HM.out).mono ?_) | (go_at_call 29; refine (neg_any _ _ _).mono ?_) | (go_at_call 39; refine (add_any _ _ _ _ _ _ _ HR.out).mono ?_);
               rintro z w' ⟨rfl, hbb⟩; have hbw := (by with_reducible exact sBQ hbb (by assumption) : Hid (Below D.heap.size D w')); have hs := hbb.size; have hbs := hbw.out.size;
               try (with_reducible (replace hbb := undrew hbb));
               try (with_reducible (have o2 := Two.over0 o1 hbb));
               try (with_reducible (have o1 := Two.over0 k1 hbb));
               try (with_reducible (have k1 := keepA hbb));
               try (have oo := k1; have ol := oo.lt; obtain ⟨r0, r1, f0, f1⟩ := oo);
               try (have oo := o1; have ol := oo.lt; obtain ⟨r0, r1, f0, f1⟩ := oo);
               try (have oo := o2; have ol := oo.lt; obtain ⟨r0, r1, f0, f1⟩ := oo)))
        all_goals (go_wp2_with fail; go_meet)
        all_goals refine ⟨_, rfl, ?_, ?_, ?_⟩
        all_goals first
          | omega
          | (simp; done)
          | (simp; omega)
          | with_reducible exact Two.new _ _ _ _
          | with_reducible exact Two.new' (by simp) _ _ _
          | with_reducible exact Two.setBoth (by assumption) _ _
          | with_reducible exact (hid_alloc (by assumption)).out
          | with_reducible exact (hid_set (by assumption) (by omega)).out
          | fail
      case rest =>
        obtain ⟨p, rfl, hp, hpD, hbw⟩ := hcut
        obtain ⟨x0, x1, x2, x3⟩ := t1.out.keep hbw
        obtain ⟨y0, y1, y2, y3⟩ := t3.out.keep hbw
        obtain ⟨z0, z1, z2, z3⟩ := hp
        go_wp2_with (first | simp only [hz] | fail)
        refine (add_any _ _ _ _ _ _ _ HA.out).mono ?_
        rintro v w5 ⟨rfl, hb5⟩
        have hb6 : Below D.heap.size D w5 := hbw.trans (hb5.mono hbw.size)
        have T3 := t3.out.keep hb6
        have n0 : ∀ (b : Nat), b ≠ w.heap.size + 3 → ∀ u v, Two D b u v → Hid (Two ((w5.setCell ⟨w.heap.size + 3, 0, none⟩ (.float .f64 g)).setCell ⟨w.heap.size + 3, 1, none⟩ (.float .f64 h)) b u v) := fun b hbn u v hT =>
          Lib.hid (((hT.keep hb6).setOther ⟨w.heap.size + 3, 0, none⟩ (fun e => hbn e.symm) _).setOther ⟨w.heap.size + 3, 1, none⟩ (fun e => hbn e.symm) _)
        have N0 := n0 _ (by omega) _ _ t0.out
        have N1 := n0 _ (by omega) _ _ t1.out
        have N2 := n0 _ (by omega) _ _ t2.out
        have N3 := Lib.hid (T3.setBoth (.float .f64 g) (.float .f64 h))
        have NB : Hid (Below w.heap.size w ((w5.setCell ⟨w.heap.size + 3, 0, none⟩ (.float .f64 g)).setCell ⟨w.heap.size + 3, 1, none⟩ (.float .f64 h))) := Lib.hid (((hb.out.trans (hb6.mono hb.out.size)).setCell (p := ⟨_, _, _⟩) (by show w.heap.size ≤ w.heap.size + 3; omega) _).setCell (p := ⟨_, _, _⟩) (by show w.heap.size ≤ w.heap.size + 3; omega) _)
        obtain ⟨k0, k1, k2, k3⟩ := T3
        have hz5 : w.heap.size + 3 < w5.heap.size := by have := hb6.size; omega
        have eg : g = (Q (k + 1)).1 := congrArg Prod.fst HGH.out
        have eh : h = (Q (k + 1)).2 := congrArg Prod.snd HGH.out
        have EG := Lib.hid eg
        have EH := Lib.hid eh
        clear n0 eg eh x0 x1 x2 x3 y0 y1 y2 y3 z0 z1 z2 z3 hb5 hb6 hbw t0 t1 t2 t3 hb
        go_wp2
        refine ⟨⟨k + 1, by omega, by go_num, N0, N1, N2, ?_, NB⟩, by simp [intOf]; omega⟩
        rw [← EG.out, ← EH.out]
        exact N3
    · obtain rfl : k = 2 := by omega
      obtain ⟨g0, g1, g2, g3⟩ := t2.out
      obtain ⟨s0, s1, s2, s3⟩ := t3.out
      have ht2 := t2.out.lt
      have hz := hb.out.size
      go_wp2
      refine bodyPost_ret (v := num (Q 2).1 (Q 2).2) (by simp [results, Try.results40, go_sem, g0, g1]) rfl ⟨rfl, ?_⟩
      exact (hb.out.setCell (p := ⟨_, _, _⟩) (by show w.heap.size ≤ w.heap.size + 2; omega) _).setCell (p := ⟨_, _, _⟩) (by show w.heap.size ≤ w.heap.size + 2; omega) _
end Go.Proofs.Ytnpkblidlmkagaa
