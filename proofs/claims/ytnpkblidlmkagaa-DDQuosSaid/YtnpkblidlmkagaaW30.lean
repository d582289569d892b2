/- DDQuos: the walk and the plain law joined. -/
import Derived.Test.YtnpkblidlmkagaaW29
import Derived.Test.YtnpkblidlmkagaaFl15
set_option linter.unusedSimpArgs false
set_option linter.unusedVariables false
namespace Go.Proofs.Ytnpkblidlmkagaa
open Go.RowKit Fl

@[irreducible] def loQ : Nat := 654
theorem loQ_eq : loQ = 654 := by unfold loQ; rfl

theorem fnt_lowQ : Fnt 2715670575304409088 := by decide +kernel

set_option maxRecDepth 100000 in
theorem iv_lowQ : iv 2715670575304409088 = ((2 ^ loQ : Nat) : Int) := by
  obtain ⟨E, hE⟩ : ∃ E : Nat, E = 602 := ⟨_, rfl⟩
  have h : D.read 2715670575304409088 = .number false (2 ^ 52) ((E : Int) - 1074) := by rw [hE]; decide +kernel
  rw [iv_signed h, signed_eq, show loQ = 52 + E by rw [loQ_eq, hE], Nat.pow_add]
  simp

theorem Mk.same {x z : Nat} {A : Int} {k : Nat} (m : Mk x A k) (fz : Fnt z) (h : iv z = iv x) : Mk z A k :=
  ⟨fz, by rw [h, m.e], m.n, m.lt⟩

theorem size_step3 (err : Int) (M : Int) (E : Nat) (h1 : 39614081257132168796771975168 * err ≤ M) (h2 : -M ≤ 39614081257132168796771975168 * err) (hM : M < ((2 ^ E : Nat) : Int)) : (err * 2 ^ 126).natAbs < 2 ^ (E + 31) := by
  rw [Nat.pow_add]
  generalize 2 ^ E = P at *
  have e2 : (2 : Int) ^ 126 = 85070591730234615865843651857942052864 := by decide
  have e3 : (2 : Nat) ^ 31 = 2147483648 := by decide
  rw [e2, e3]
  omega

theorem quo_makes {a b c d e f : Nat} {S : Int} (ta : Tame a b) (h : QuoAt a b c d e f S) (hf : iv f = 0 ∨ 2 ^ loQ ≤ (iv f).natAbs) :
    (∃ (A : Int) (k : Nat), Mk e A k ∧ 738 ≤ k ∧ k ≤ 1305) ∧ ∃ (B : Int) (l : Nat), Mk f B l ∧ 602 ≤ l ∧ l ≤ 1305 := by
  have h1 := qloE_eq
  have h2 := qhiE_eq
  have h3 := loQ_eq
  have h4 := tame_second h.neat.symm
  constructor
  · rcases h.size with ⟨_, h, _⟩ | ⟨_, ha, hb⟩
    · exact ⟨0, 1000, mk_zero ‹QuoAt a b c d e f S›.fe h _, by omega, by omega⟩
    · obtain ⟨A, k, m, k1, k2⟩ := mk_of h.fe ha hb (by omega)
      exact ⟨A, k, m, by omega, by omega⟩
  · rcases hf with h0 | ha
    · exact ⟨0, 1000, mk_zero h.ff h0 _, by omega, by omega⟩
    · rcases h.size with ⟨_, _, h0⟩ | ⟨_, _, hb⟩
      · exact ⟨0, 1000, mk_zero h.ff h0 _, by omega, by omega⟩
      · obtain ⟨A, k, m, k1, k2⟩ := mk_of h.ff ha (hi := qhiE) (by omega) (by omega)
        exact ⟨A, k, m, by omega, by omega⟩

theorem sum_scaled {e f c d P1 P2 P3 P4 S : Int} (h1 : e * c = P1 * S) (h2 : e * d = P2 * S) (h3 : f * c = P3 * S) (h4 : f * d = P4 * S) : (P1 + P2 + P3 + P4) * S = (c + d) * (e + f) := by
  rw [prod_expand, Int.add_mul, Int.add_mul, Int.add_mul, ← h1, ← h2, ← h3, ← h4, Int.mul_comm e c, Int.mul_comm e d, Int.mul_comm f c, Int.mul_comm f d]
  omega

/-- What the law asks where the second part isn't tiny. -/
theorem qbig_of {a b c d e f : Nat} {S : Int} (hS : S = ((2 ^ U : Nat) : Int)) (ta : Tame a b) (tc : Tame c d) (h : QuoAt a b c d e f S) (hf : iv f = 0 ∨ 2 ^ loQ ≤ (iv f).natAbs)
    (k4 : (iv a = 0 ∧ topF a = -1200) ∨ ∃ E : Nat, (E : Int) = topF a + 1074 ∧ (iv a).natAbs < 2 ^ E ∧ 2 ^ (E - 1) ≤ (iv a).natAbs ∧ loE ≤ E) : QBig a b c d e f topF := by
  have hU := U_eq
  have hBt := Bt_eq
  have hSp : 0 < S := by rw [hS]; have := Nat.two_pow_pos U; omega
  have eS : (2 : Int) ^ U = S := by rw [hS]; exact (Int.natCast_pow _ _).symm
  obtain ⟨⟨A, k, mX, kx1, kx2⟩, B, l, mY, ly1, ly2⟩ := ta.makes
  obtain ⟨⟨A', k', mX', kx1', kx2'⟩, B', l', mY', ly1', ly2'⟩ := tc.makes
  obtain ⟨⟨C, m, mE, m1, m2⟩, C', n, mF, n1, n2⟩ := quo_makes ta h hf
  obtain ⟨S1, q4, f1, v1⟩ := fmul_one h.fe h.se
  obtain ⟨E1, q5, f2, v2⟩ := fmul_one h.ff h.sf
  obtain ⟨X1, q6, f3, v3⟩ := fmul_mone ta.fX (mX.sm (by omega))
  obtain ⟨Y1, q7, f4, v4⟩ := fmul_mone ta.fY (mY.sm (by omega))
  have nE := mE.same f1 v1
  have nF := mF.same f2 v2
  have p1 := mk_prod nE mX' (by omega)
  have p2 := mk_prod nE mY' (by omega)
  have p3 := mk_prod nF mX' (by omega)
  have p4 := mk_prod nF mY' (by omega)
  obtain ⟨P1, e1⟩ : ∃ P, P = C * A' * 2 ^ (m + k' - U) := ⟨_, rfl⟩
  obtain ⟨P2, e2⟩ : ∃ P, P = C * B' * 2 ^ (m + l' - U) := ⟨_, rfl⟩
  obtain ⟨P3, e3⟩ : ∃ P, P = C' * A' * 2 ^ (n + k' - U) := ⟨_, rfl⟩
  obtain ⟨P4, e4⟩ : ∃ P, P = C' * B' * 2 ^ (n + l' - U) := ⟨_, rfl⟩
  rw [← e1] at p1
  rw [← e2] at p2
  rw [← e3] at p3
  rw [← e4] at p4
  clear e1 e2 e3 e4
  have T1 := timesAt_of nE mX' (by omega) (by omega) p1
  have T2 := timesAt_of nE mY' (by omega) (by omega) p2
  have T3 := timesAt_of nF mX' (by omega) (by omega) p3
  have T4 := timesAt_of nF mY' (by omega) (by omega) p4
  rw [eS, v1] at p1 p2
  rw [eS, v2] at p3 p4
  have hs := sum_scaled p1 p2 p3 p4
  have g1 := h.n1
  have g2 := h.n2
  rw [← hs, ← Int.sub_mul] at g1 g2
  have r1 : 39614081257132168796771975168 * (iv a + iv b - (P1 + P2 + P3 + P4)) ≤ ((iv a).natAbs : Int) := by
    rw [abs_mul_pos hSp, ← Int.mul_assoc] at g1
    exact Int.le_of_mul_le_mul_right g1 hSp
  have r2 : -((iv a).natAbs : Int) ≤ 39614081257132168796771975168 * (iv a + iv b - (P1 + P2 + P3 + P4)) := by
    rw [abs_mul_pos hSp, ← Int.mul_assoc, ← Int.neg_mul] at g2
    exact Int.le_of_mul_le_mul_right g2 hSp
  obtain ⟨err, herr⟩ : ∃ x, x = (P1 + P2 + P3 + P4) + (iv X1 + iv Y1) := ⟨_, rfl⟩
  have s1 : 39614081257132168796771975168 * err ≤ ((iv a).natAbs : Int) := by rw [herr, v3, v4]; omega
  have s2 : -((iv a).natAbs : Int) ≤ 39614081257132168796771975168 * err := by rw [herr, v3, v4]; omega
  clear r1 r2 g1 g2 hs p1 p2 p3 p4
  refine ⟨S1, E1, X1, Y1, P1, P2, P3, P4, q4, q5, q6, q7, f3, f4, T1, T2, T3, T4, ?_, ?_⟩
  · rw [← herr]
    obtain ⟨n, hn⟩ : ∃ n, n = 30 * 110 := ⟨_, rfl⟩
    rw [← hn]
    have hh := hiE_eq
    have hlt : ((iv a).natAbs : Int) < ((2 ^ hiE : Nat) : Int) := by
      rcases ta.size with ⟨h, _⟩ | h
      · rw [h, Int.natAbs_zero]; have := Nat.two_pow_pos hiE; omega
      · omega
    exact Nat.lt_of_lt_of_le (size_step3 err _ hiE s1 s2 hlt) (pow_mono (by omega))
  · intro K hK
    rw [← herr] at hK
    rcases k4 with ⟨z, _⟩ | ⟨E', g1, g2, g3, g4⟩
    · left
      rw [z] at s1 s2
      have h0 : err = 0 := by simp at s1 s2; omega
      have := hK 0 (by rw [h0]; decide)
      omega
    · right
      have := hK (E' + 31) (size_step3 err _ E' s1 s2 (by omega))
      omega

set_option maxRecDepth 100000 in
theorem quos_all (a b c d : Int) (w : World) :
    Calls Try.prog 7 #[pair2 a b, pair2 c d] w fun z w' => z = .returned (.bool true) ∧ Below w.heap.size w w' := by
  have t1 := (tame_spec a b).1
  have t2 := (tame_spec c d).1
  obtain ⟨X, eX⟩ : ∃ X, tameF a b = X := ⟨_, rfl⟩
  obtain ⟨Y, eY⟩ : ∃ Y, tameG a b = Y := ⟨_, rfl⟩
  obtain ⟨X', eX'⟩ : ∃ X, tameF c d = X := ⟨_, rfl⟩
  obtain ⟨Y', eY'⟩ : ∃ Y, tameG c d = Y := ⟨_, rfl⟩
  rw [eX, eY] at t1
  rw [eX', eY'] at t2
  obtain ⟨k1, k2, k3, k4⟩ := topF_spec t1.sized
  refine quos_any tameF tameG a b c d X Y X' Y' topF w (fun a b w => (tame_spec a b).2 w) eX eY eX' eY' k1 k2 k3 ?_
  have ob := order_bool t2.fX fnt_zero
  rw [iv_zero] at ob
  by_cases c0 : iv X' = 0
  · left
    show (D.order X' 0 == some .eq) = true
    rw [ob.1]; simpa using c0
  · right
    refine ⟨?_, ?_⟩
    · show (D.order X' 0 == some .eq) = false
      rw [ob.1]; simpa using c0
    · obtain ⟨Q, q0, q00, qk, hq⟩ := quo_spec (S := ((2 ^ U : Nat) : Int)) rfl t1 t2 c0
      have hsum : (iv (Q 2).1 + iv (Q 2).2).natAbs < 2 ^ Bt := by
        have sS := hq.se
        have sE := hq.sf
        unfold Sm at sS sE
        have := Nat.two_pow_pos Bt
        omega
      obtain ⟨r, hr, fr, vr⟩ := fadd_spec hq.fe hq.ff hsum
      refine ⟨Q, (Q 2).1, (Q 2).2, r, ⟨q0, q00, qk, rfl, rfl⟩, hq.fe, hq.ff, hr, order_eq fr hq.fe (by rw [vr, ← hq.neat]), ?_⟩
      have o1 := order_bool (fabs_fnt hq.ff) fnt_lowQ
      have o2 := order_bool hq.ff fnt_zero
      have o3 := order_bool t1.fX fnt_zero
      rw [iv_fabs hq.ff, iv_lowQ] at o1
      rw [iv_zero] at o2 o3
      have ne : ∀ {x : Nat} (fx : Fnt x) (b : Bool), decide (iv x = 0) = !b → (FloatKind.f64.format.order x 0 != some Ordering.eq) = b := fun {x} fx b hb => by
        have ob := (order_bool fx fnt_zero).1
        rw [iv_zero] at ob
        show (D.order x 0 != some .eq) = b
        simp only [bne]
        rw [ob, hb]; simp
      have lt1 : (FloatKind.f64.format.order (fabs (Q 2).2) 2715670575304409088 == some Ordering.lt) = decide (((iv (Q 2).2).natAbs : Int) < ((2 ^ loQ : Nat) : Int)) := o1.2.1
      by_cases e0 : iv (Q 2).2 = 0
      · right
        refine ⟨?_, qbig_of rfl t1 t2 hq (.inl e0) k4⟩
        right
        refine ⟨?_, ne hq.ff false (by simpa using e0)⟩
        rw [lt1, e0, Int.natAbs_zero]
        have := Nat.two_pow_pos loQ
        apply decide_eq_true
        omega
      · by_cases hlt : ((iv (Q 2).2).natAbs : Int) < ((2 ^ loQ : Nat) : Int)
        · left
          refine ⟨⟨by rw [lt1]; simpa using hlt, ne hq.ff true (by simpa using e0)⟩, ne t1.fX true ?_⟩
          rcases hq.size with ⟨_, _, h⟩ | ⟨h, _⟩
          · exact absurd h e0
          · simpa using h
        · right
          exact ⟨.inl (by rw [lt1]; simpa using hlt), qbig_of rfl t1 t2 hq (.inr (by omega)) k4⟩

end Go.Proofs.Ytnpkblidlmkagaa
