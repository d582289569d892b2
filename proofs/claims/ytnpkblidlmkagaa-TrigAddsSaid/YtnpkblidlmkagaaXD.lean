/- The walk of TrigAdds. -/
import Derived.Test.YtnpkblidlmkagaaXX
import Derived.BigQuiet
set_option linter.unusedSimpArgs false
set_option linter.unusedVariables false
namespace Go.Proofs.Ytnpkblidlmkagaa
open Go.RowKit Fl

set_option maxRecDepth 100000 in
set_option maxHeartbeats 8000000 in
theorem adds_all (a b n : Int) (w : World) (hn : -9223372036854775808 ≤ n) (hn2 : n ≤ 9223372036854775807) :
    Calls Try.prog 13 #[.int .i64 a, .int .i64 b, .int .i64 n] w fun z w' => z = .returned (.bool true) ∧ Below w.heap.size w w' := by
  have PA := Lib.hid (fun w => parts5_any n 1099511627776 w hn hn2 (by omega) (by omega))
  obtain ⟨m, hm⟩ : ∃ m : Int, m = 1 + (if n < 0 then -(n + 1) else n) % 1099511627776 := ⟨_, rfl⟩
  rw [← hm] at PA
  have m1 : 1 ≤ m := by rw [hm]; split <;> omega
  have m2 : m ≤ 1099511627776 := by rw [hm]; split <;> omega
  clear hm
  obtain ⟨A, hA⟩ : ∃ A, A = a.tmod m := ⟨_, rfl⟩
  obtain ⟨B, hB⟩ : ∃ B, B = b.tmod m := ⟨_, rfl⟩
  have A1 : -1099511627776 ≤ A ∧ A ≤ 1099511627776 := by
    have h1 := Int.tmod_lt_of_pos a (show 0 < m by omega)
    have h2 := Int.lt_tmod_of_pos a (show 0 < m by omega)
    omega
  have B1 : -1099511627776 ≤ B ∧ B ≤ 1099511627776 := by
    have h1 := Int.tmod_lt_of_pos b (show 0 < m by omega)
    have h2 := Int.lt_tmod_of_pos b (show 0 < m by omega)
    omega
  have wAB : wrap64 (A + B) = A + B := wrapIn (by omega) (by omega)
  have hmz : (m == 0) = false := by simp; omega
  have mpos : 1 ≤ m := m1
  obtain ⟨⟨p, q, r, t, c1, c2, c3, c4, ft, ot⟩, p', q', r', t', c1', c2', c3', c4', ft', ot'⟩ := adds_plain A B m m1 m2
  have EA := Lib.hid (fun w => exact_fn A m w m1 m2)
  have EB := Lib.hid (fun w => exact_fn B m w m1 m2)
  have EC := Lib.hid (fun w => exact_fn (A + B) m w m1 m2)
  obtain ⟨AB, hAB⟩ : ∃ AB, AB = A + B := ⟨_, rfl⟩
  rw [← hAB] at EC c4 c4'
  generalize exC A m = c at *
  generalize exS A m = s at *
  generalize exC B m = d at *
  generalize exS B m = e at *
  generalize exC AB m = f at *
  generalize exS AB m = g at *
  obtain ⟨x1, x2⟩ := c
  obtain ⟨y1, y2⟩ := s
  obtain ⟨d1, d2⟩ := d
  obtain ⟨e1, e2⟩ := e
  obtain ⟨f1, f2⟩ := f
  obtain ⟨g1, g2⟩ := g
  obtain ⟨p1, p2⟩ := p
  obtain ⟨q1, q2⟩ := q
  obtain ⟨r1, r2⟩ := r
  obtain ⟨t1, t2⟩ := t
  obtain ⟨p1', p2'⟩ := p'
  obtain ⟨q1', q2'⟩ := q'
  obtain ⟨r1', r2'⟩ := r'
  obtain ⟨t1', t2'⟩ := t'
  have M1 : Hid (mulF (x1, x2) (d1, d2) = some (p1, p2)) := Lib.hid c1
  have M2 : Hid (mulF (y1, y2) (e1, e2) = some (q1, q2)) := Lib.hid c2
  have M3 : Hid (addF (p1, p2) (fneg q1, fneg q2) = some (r1, r2)) := Lib.hid c3
  have M4 : Hid (addF (r1, r2) (fneg f1, fneg f2) = some (t1, t2)) := Lib.hid c4
  have N1 : Hid (mulF (y1, y2) (d1, d2) = some (p1', p2')) := Lib.hid c1'
  have N2 : Hid (mulF (x1, x2) (e1, e2) = some (q1', q2')) := Lib.hid c2'
  have N3 : Hid (addF (p1', p2') (q1', q2') = some (r1', r2')) := Lib.hid c3'
  have N4 : Hid (addF (r1', r2') (fneg g1, fneg g2) = some (t1', t2')) := Lib.hid c4'
  have AB1 := Lib.hid (fun w => abs_any t1 w ft.1)
  have AB2 := Lib.hid (fun w => abs_any t1' w ft'.1)
  have WAB := Lib.hid wAB
  have WA := Lib.hid hA
  have WB := Lib.hid hB
  have HAB := Lib.hid hAB
  clear c1 c2 c3 c4 c1' c2' c3' c4' hn hn2 m1 m2 hA hB wAB hAB A1 B1 ft ft'
  go_enter Try.func13, Try.ntmps13
  go_wp2_with fail
  refine (PA.out _).mono ?_
  rintro z w' ⟨rfl, rfl⟩
  clear PA
  go_upto_region 2 with fail
  have hmne : m ≠ 0 := by omega
  go_region
  rw [← WA.out, ← WB.out]
  go_wp2_with fail
  refine (EA.out _).mono ?_
  rintro z w1 ⟨rfl, hb1⟩
  have b1 : Below w.heap.size w w1 := ((Below.refl _ w).drew).trans hb1
  have B1 := Lib.hid ((b1.alloc b1.size (.cells #[.float .f64 x1, .float .f64 x2] 25)).alloc (b1.alloc b1.size (.cells #[.float .f64 x1, .float .f64 x2] 25)).size (.cells #[.float .f64 y1, .float .f64 y2] 25))
  have T7 := Lib.hid ((Two.new w1 (.float .f64 x1) (.float .f64 x2) 25).alloc (.cells #[.float .f64 y1, .float .f64 y2] 25))
  have T8 := Lib.hid (Two.new' (w := w1.alloc (.cells #[.float .f64 x1, .float .f64 x2] 25)) (b := w1.heap.size + 1) (by simp) (.float .f64 y1) (.float .f64 y2) 25)
  clear hb1 b1 EA
  go_wp2_with fail
  refine (EB.out _).mono ?_
  rintro z w2 ⟨rfl, hb2⟩
  have b2 := B1.out.trans (hb2.mono B1.out.size)
  have B2 := Lib.hid ((b2.alloc b2.size (.cells #[.float .f64 d1, .float .f64 d2] 25)).alloc (b2.alloc b2.size (.cells #[.float .f64 d1, .float .f64 d2] 25)).size (.cells #[.float .f64 e1, .float .f64 e2] 25))
  have U7 := Lib.hid (((T7.out.keep hb2).alloc (.cells #[.float .f64 d1, .float .f64 d2] 25)).alloc (.cells #[.float .f64 e1, .float .f64 e2] 25))
  have U8 := Lib.hid (((T8.out.keep hb2).alloc (.cells #[.float .f64 d1, .float .f64 d2] 25)).alloc (.cells #[.float .f64 e1, .float .f64 e2] 25))
  have T9 := Lib.hid ((Two.new w2 (.float .f64 d1) (.float .f64 d2) 25).alloc (.cells #[.float .f64 e1, .float .f64 e2] 25))
  have T10 := Lib.hid (Two.new' (w := w2.alloc (.cells #[.float .f64 d1, .float .f64 d2] 25)) (b := w2.heap.size + 1) (by simp) (.float .f64 e1) (.float .f64 e2) 25)
  clear hb2 b2 EB B1 T7 T8
  go_wp2_with fail
  rw [WAB.out, ← HAB.out]
  refine (EC.out _).mono ?_
  rintro z w3 ⟨rfl, hb3⟩
  have b3 := B2.out.trans (hb3.mono B2.out.size)
  have B3 := Lib.hid ((b3.alloc b3.size (.cells #[.float .f64 f1, .float .f64 f2] 25)).alloc (b3.alloc b3.size (.cells #[.float .f64 f1, .float .f64 f2] 25)).size (.cells #[.float .f64 g1, .float .f64 g2] 25))
  have T7 := Lib.hid (((U7.out.keep hb3).alloc (.cells #[.float .f64 f1, .float .f64 f2] 25)).alloc (.cells #[.float .f64 g1, .float .f64 g2] 25))
  have T8 := Lib.hid (((U8.out.keep hb3).alloc (.cells #[.float .f64 f1, .float .f64 f2] 25)).alloc (.cells #[.float .f64 g1, .float .f64 g2] 25))
  have U9 := Lib.hid (((T9.out.keep hb3).alloc (.cells #[.float .f64 f1, .float .f64 f2] 25)).alloc (.cells #[.float .f64 g1, .float .f64 g2] 25))
  have U10 := Lib.hid (((T10.out.keep hb3).alloc (.cells #[.float .f64 f1, .float .f64 f2] 25)).alloc (.cells #[.float .f64 g1, .float .f64 g2] 25))
  have T11 := Lib.hid ((Two.new w3 (.float .f64 f1) (.float .f64 f2) 25).alloc (.cells #[.float .f64 g1, .float .f64 g2] 25))
  have T12 := Lib.hid (Two.new' (w := w3.alloc (.cells #[.float .f64 f1, .float .f64 f2] 25)) (b := w3.heap.size + 1) (by simp) (.float .f64 g1) (.float .f64 g2) 25)
  clear hb3 b3 EC B2 U7 U8 T9 T10
  go_upto_region 6 with fail
  obtain ⟨D, hD⟩ : ∃ D, D = (w3.alloc (.cells #[.float .f64 f1, .float .f64 f2] 25)).alloc (.cells #[.float .f64 g1, .float .f64 g2] 25) := ⟨_, rfl⟩
  rw [← hD] at B3 T7 T8 U9 U10 T11 T12 ⊢
  clear hD
  have bx0 := T7
  have bx1 := T8
  have bx2 := U9
  have bx3 := U10
  have bx4 := T11
  have lz0 := T7.out.lt
  have lz1 := T8.out.lt
  have lz2 := U9.out.lt
  have lz3 := U10.out.lt
  have lz4 := T11.out.lt
  have lz5 := T12.out.lt
  go_cut [13] from 43 to 53 (fun sp wx => ∃ p, sp = .pointer (some ⟨p, 0, none⟩) ∧ Two wx p (.float .f64 t1) (.float .f64 t2) ∧ D.heap.size ≤ p ∧ Below D.heap.size D wx)
  case first =>
    go_region_held3 (fun w' => w'.cell? ⟨w1.heap.size, 0, none⟩ = some (.float .f64 x1) ∧ w'.cell? ⟨w1.heap.size, 1, none⟩ = some (.float .f64 x2) ∧ w'.cell? ⟨w1.heap.size + 1, 0, none⟩ = some (.float .f64 y1) ∧ w'.cell? ⟨w1.heap.size + 1, 1, none⟩ = some (.float .f64 y2) ∧ w'.cell? ⟨w2.heap.size, 0, none⟩ = some (.float .f64 d1) ∧ w'.cell? ⟨w2.heap.size, 1, none⟩ = some (.float .f64 d2) ∧ w'.cell? ⟨w2.heap.size + 1, 0, none⟩ = some (.float .f64 e1) ∧ w'.cell? ⟨w2.heap.size + 1, 1, none⟩ = some (.float .f64 e2) ∧ w'.cell? ⟨w3.heap.size, 0, none⟩ = some (.float .f64 f1) ∧ w'.cell? ⟨w3.heap.size, 1, none⟩ = some (.float .f64 f2) ∧ Hid (Below D.heap.size D w'))
      (first
        | with_reducible exact skX5 bx0.out bx1.out bx2.out bx3.out bx4.out (hid_drew _)
        | with_reducible exact skX5 bx0.out bx1.out bx2.out bx3.out bx4.out (hid_refl _)
        | with_reducible exact skX5 bx0.out bx1.out bx2.out bx3.out bx4.out (by assumption)
        | with_reducible exact skX5 bx0.out bx1.out bx2.out bx3.out bx4.out (hid_alloc (by assumption))
        | with_reducible exact skX5 bx0.out bx1.out bx2.out bx3.out bx4.out (hid_alloc (hid_refl _))
        | with_reducible exact skX5 bx0.out bx1.out bx2.out bx3.out bx4.out (hid_alloc (hid_drew _))
        | with_reducible exact skX5 bx0.out bx1.out bx2.out bx3.out bx4.out (hid_set (by assumption) (by omega))
        | with_reducible exact skX5 bx0.out bx1.out bx2.out bx3.out bx4.out (hid_set (hid_alloc (by assumption)) (by omega))
        | fail)
      (first
        | (first | (go_at_call 35; refine (mul_any _ _ _ _ _ _ _ (by first | exact M1.out | exact M2.out)).mono ?_) | (go_at_call 29; refine (neg_any _ _ _).mono ?_) | (go_at_call 39; refine (add_any _ _ _ _ _ _ _ (by first | exact M3.out | exact M4.out)).mono ?_);
           rintro z w' ⟨rfl, hbb⟩; have hbw := (by with_reducible exact sBX5 hbb (by assumption) : Hid (Below D.heap.size D w')); have hs := hbb.size; have hbs := hbw.out.size;
           try (with_reducible (replace hbb := undrew hbb));
           try (with_reducible (have o6 := Two.over0 o5 hbb));
           try (with_reducible (have o5 := Two.over0 o4 hbb));
           try (with_reducible (have o4 := Two.over0 o3 hbb));
           try (with_reducible (have o3 := Two.over0 o2 hbb));
           try (with_reducible (have o2 := Two.over0 o1 hbb));
           try (with_reducible (have o1 := Two.over0 k1 hbb));
           try (with_reducible (have k1 := keepA hbb));
           try (have oo := k1; have ol := oo.lt; obtain ⟨r0, r1, f0, f1⟩ := oo);
           try (have oo := o1; have ol := oo.lt; obtain ⟨r0, r1, f0, f1⟩ := oo);
           try (have oo := o2; have ol := oo.lt; obtain ⟨r0, r1, f0, f1⟩ := oo);
           try (have oo := o3; have ol := oo.lt; obtain ⟨r0, r1, f0, f1⟩ := oo);
           try (have oo := o4; have ol := oo.lt; obtain ⟨r0, r1, f0, f1⟩ := oo);
           try (have oo := o5; have ol := oo.lt; obtain ⟨r0, r1, f0, f1⟩ := oo);
           try (have oo := o6; have ol := oo.lt; obtain ⟨r0, r1, f0, f1⟩ := oo)))
    all_goals (go_wp2_with fail; go_meet)
    all_goals refine ⟨_, rfl, ?_, ?_, ?_⟩
    all_goals first
      | omega
      | (simp; done)
      | (simp; omega)
      | with_reducible exact Two.new _ _ _ _
      | with_reducible exact Two.new' (by simp) _ _ _
      | with_reducible exact Two.setBoth (by assumption) _ _
      | with_reducible exact (hid_alloc (by assumption)).out
      | with_reducible exact (hid_set (by assumption) (by omega)).out
      | fail
  case rest =>
    obtain ⟨p, rfl, hp, hpD, hbw⟩ := hcut
    clear bx0 bx1 bx2 bx3 bx4
    have U7 := Lib.hid (T7.out.keep hbw)
    have U8 := Lib.hid (T8.out.keep hbw)
    have V9 := Lib.hid (U9.out.keep hbw)
    have V10 := Lib.hid (U10.out.keep hbw)
    have U12 := Lib.hid (T12.out.keep hbw)
    have P13 := Lib.hid hp
    have B4 := Lib.hid (B3.out.trans (hbw.mono B3.out.size))
    clear hp hbw T7 T8 U9 U10 T11 T12 B3 hpD lz0 lz1 lz2 lz3 lz4 lz5
    apply_assumption
    go_upto_region 7 with fail
    obtain ⟨D, hD⟩ : ∃ D, D = wc := ⟨_, rfl⟩
    rw [← hD] at U7 U8 V9 V10 U12 P13 B4 ⊢
    clear hD
    have bx0 := U8
    have bx1 := V9
    have bx2 := U7
    have bx3 := V10
    have bx4 := U12
    have lz0 := U7.out.lt
    have lz1 := U8.out.lt
    have lz2 := V9.out.lt
    have lz3 := V10.out.lt
    have lz5 := U12.out.lt
    have lz6 := P13.out.lt
    go_cut [14] from 54 to 63 (fun sp wx => ∃ p, sp = .pointer (some ⟨p, 0, none⟩) ∧ Two wx p (.float .f64 t1') (.float .f64 t2') ∧ D.heap.size ≤ p ∧ Below D.heap.size D wx)
    case first =>
      go_region_held3 (fun w' => w'.cell? ⟨(w1.heap.size + 1), 0, none⟩ = some (.float .f64 y1) ∧ w'.cell? ⟨(w1.heap.size + 1), 1, none⟩ = some (.float .f64 y2) ∧ w'.cell? ⟨w2.heap.size, 0, none⟩ = some (.float .f64 d1) ∧ w'.cell? ⟨w2.heap.size, 1, none⟩ = some (.float .f64 d2) ∧ w'.cell? ⟨w1.heap.size, 0, none⟩ = some (.float .f64 x1) ∧ w'.cell? ⟨w1.heap.size, 1, none⟩ = some (.float .f64 x2) ∧ w'.cell? ⟨(w2.heap.size + 1), 0, none⟩ = some (.float .f64 e1) ∧ w'.cell? ⟨(w2.heap.size + 1), 1, none⟩ = some (.float .f64 e2) ∧ w'.cell? ⟨(w3.heap.size + 1), 0, none⟩ = some (.float .f64 g1) ∧ w'.cell? ⟨(w3.heap.size + 1), 1, none⟩ = some (.float .f64 g2) ∧ Hid (Below D.heap.size D w'))
        (first
          | with_reducible exact skX5 bx0.out bx1.out bx2.out bx3.out bx4.out (hid_drew _)
          | with_reducible exact skX5 bx0.out bx1.out bx2.out bx3.out bx4.out (hid_refl _)
          | with_reducible exact skX5 bx0.out bx1.out bx2.out bx3.out bx4.out (by assumption)
          | with_reducible exact skX5 bx0.out bx1.out bx2.out bx3.out bx4.out (hid_alloc (by assumption))
          | with_reducible exact skX5 bx0.out bx1.out bx2.out bx3.out bx4.out (hid_alloc (hid_refl _))
          | with_reducible exact skX5 bx0.out bx1.out bx2.out bx3.out bx4.out (hid_alloc (hid_drew _))
          | with_reducible exact skX5 bx0.out bx1.out bx2.out bx3.out bx4.out (hid_set (by assumption) (by omega))
          | with_reducible exact skX5 bx0.out bx1.out bx2.out bx3.out bx4.out (hid_set (hid_alloc (by assumption)) (by omega))
          | fail)
        (first
          | (first | (go_at_call 35; refine (mul_any _ _ _ _ _ _ _ (by first | exact N1.out | exact N2.out)).mono ?_) | (go_at_call 29; refine (neg_any _ _ _).mono ?_) | (go_at_call 39; refine (add_any _ _ _ _ _ _ _ (by first | exact N3.out | exact N4.out)).mono ?_);
             rintro z w' ⟨rfl, hbb⟩; have hbw := (by with_reducible exact sBX5 hbb (by assumption) : Hid (Below D.heap.size D w')); have hs := hbb.size; have hbs := hbw.out.size;
             try (with_reducible (replace hbb := undrew hbb));
             try (with_reducible (have o6 := Two.over0 o5 hbb));
             try (with_reducible (have o5 := Two.over0 o4 hbb));
             try (with_reducible (have o4 := Two.over0 o3 hbb));
             try (with_reducible (have o3 := Two.over0 o2 hbb));
             try (with_reducible (have o2 := Two.over0 o1 hbb));
             try (with_reducible (have o1 := Two.over0 k1 hbb));
             try (with_reducible (have k1 := keepA hbb));
             try (have oo := k1; have ol := oo.lt; obtain ⟨r0, r1, f0, f1⟩ := oo);
             try (have oo := o1; have ol := oo.lt; obtain ⟨r0, r1, f0, f1⟩ := oo);
             try (have oo := o2; have ol := oo.lt; obtain ⟨r0, r1, f0, f1⟩ := oo);
             try (have oo := o3; have ol := oo.lt; obtain ⟨r0, r1, f0, f1⟩ := oo);
             try (have oo := o4; have ol := oo.lt; obtain ⟨r0, r1, f0, f1⟩ := oo);
             try (have oo := o5; have ol := oo.lt; obtain ⟨r0, r1, f0, f1⟩ := oo);
             try (have oo := o6; have ol := oo.lt; obtain ⟨r0, r1, f0, f1⟩ := oo)))
      all_goals (go_wp2_with fail; go_meet)
      all_goals refine ⟨_, rfl, ?_, ?_, ?_⟩
      all_goals first
        | omega
        | (simp; done)
        | (simp; omega)
        | with_reducible exact Two.new _ _ _ _
        | with_reducible exact Two.new' (by simp) _ _ _
        | with_reducible exact Two.setBoth (by assumption) _ _
        | with_reducible exact (hid_alloc (by assumption)).out
        | with_reducible exact (hid_set (by assumption) (by omega)).out
        | fail
    case rest =>
      obtain ⟨p', rfl, hp, hpD, hbw⟩ := hcut
      have P14 := Lib.hid hp
      have Q13 := Lib.hid (P13.out.keep hbw)
      have B5 := Lib.hid (B4.out.trans (hbw.mono B4.out.size))
      clear hp hbw U7 U8 V9 V10 U12 P13 B4 bx0 bx1 bx2 bx3 bx4
      apply_assumption
      go_wp2_with fail
      refine (wakes5_any _).mono ?_
      rintro z w9 ⟨rfl, hb⟩
      obtain ⟨r0, r1, f0, f1⟩ := Q13.out.keep hb
      obtain ⟨s0, s1, h0, h1⟩ := P14.out.keep hb
      go_wp2_with fail
      refine (AB1.out _).mono ?_
      rintro z w' ⟨rfl, rfl⟩
      go_wp2_with fail
      refine (AB2.out _).mono ?_
      rintro z w' ⟨rfl, rfl⟩
      go_wp2_with fail
      go_ret
      exact ⟨rfl, B5.out.trans (hb.mono B5.out.size)⟩

end Go.Proofs.Ytnpkblidlmkagaa
