/- DDMuls: the walk and the plain law joined. -/
import Derived.Test.YtnpkblidlmkagaaW26
import Derived.Test.YtnpkblidlmkagaaW24
set_option linter.unusedSimpArgs false
set_option linter.unusedVariables false
namespace Go.Proofs.Ytnpkblidlmkagaa
open Go.RowKit Fl

theorem Tame.second {X Y : Nat} (t : Tame X Y) : 9007199254740990 * (iv Y).natAbs ≤ (iv X).natAbs := by
  have := tame_second t.neat
  omega

theorem Tame.makes {X Y : Nat} (t : Tame X Y) : (∃ (A : Int) (k : Nat), Mk X A k ∧ 881 ≤ k ∧ k ≤ 1162) ∧ ∃ (B : Int) (l : Nat), Mk Y B l ∧ 622 ≤ l ∧ l ≤ 1162 := by
  have h1 := loE_eq
  have h2 := hiE_eq
  have h3 := lowE_eq
  have h4 := t.second
  constructor
  · rcases t.size with ⟨h, _⟩ | ⟨ha, hb⟩
    · exact ⟨0, 1000, mk_zero t.fX h _, by omega, by omega⟩
    · obtain ⟨A, k, m, k1, k2⟩ := mk_of t.fX ha hb (by omega)
      exact ⟨A, k, m, by omega, by omega⟩
  · rcases t.low with h | ha
    · exact ⟨0, 1000, mk_zero t.fY h _, by omega, by omega⟩
    · rcases t.size with ⟨_, h⟩ | ⟨_, hb⟩
      · exact ⟨0, 1000, mk_zero t.fY h _, by omega, by omega⟩
      · obtain ⟨A, k, m, k1, k2⟩ := mk_of t.fY ha (hi := hiE) (by omega) (by omega)
        exact ⟨A, k, m, by omega, by omega⟩

theorem Mk.neg {x z : Nat} {A : Int} {k : Nat} (m : Mk x A k) (fz : Fnt z) (h : iv z = - iv x) : Mk z (-A) k :=
  ⟨fz, by rw [h, m.e, Int.neg_mul], by have := m.n; omega, by have := m.lt; omega⟩

theorem timesAt_of {u v : Nat} {A B P : Int} {k l : Nat} (mu : Mk u A k) (mv : Mk v B l) (h1 : 1100 ≤ k + l) (h2 : k + l ≤ 3500) (hP : iv u * iv v = P * 2 ^ U) : TimesAt u v P := by
  intro b f w hl B' hB hf
  have hE : (pm u = 0 ∨ pm v = 0) ∨ (-1150 ≤ pe u + pe v ∧ pe u + pe v ≤ 1800) := by
    by_cases hA : A = 0
    · left; left; exact pm_zero mu.f (by rw [mu.e, hA, Int.zero_mul])
    · by_cases hB : B = 0
      · left; right; exact pm_zero mv.f (by rw [mv.e, hB, Int.zero_mul])
      · right
        have := mu.lo hA
        have := mv.lo hB
        have := mu.hi
        have := mv.hi
        omega
  have h := times_val b u v f w mu.f mv.f hE hl B' hB hf
  rwa [times_units mu.f mv.f hP (by omega)] at h

theorem size_step2 (err : Int) (M : Int) (E : Nat) (h1 : 2 ^ 98 * err ≤ M) (h2 : -M ≤ 2 ^ 98 * err) (hM : M < ((2 ^ E : Nat) : Int)) : (err * 2 ^ 126).natAbs < 2 ^ (E + 29) := by
  rw [Nat.pow_add]
  generalize 2 ^ E = P at *
  have e : (2 : Int) ^ 98 = 316912650057057350374175801344 := by decide
  have e2 : (2 : Int) ^ 126 = 85070591730234615865843651857942052864 := by decide
  have e3 : (2 : Nat) ^ 29 = 536870912 := by decide
  rw [e] at h1 h2
  rw [e2, e3]
  omega

theorem prod_lt {u v P : Int} {a b : Nat} (hP : u * v = P * 2 ^ U) (h1 : u.natAbs < 2 ^ a) (h2 : v.natAbs < 2 ^ b) (h : 1074 ≤ a + b) : P.natAbs < 2 ^ (a + b - U) := by
  have hU := U_eq
  have e1 : (u * v).natAbs = P.natAbs * 2 ^ U := by rw [hP, Int.natAbs_mul, Int.natAbs_pow]; rfl
  rw [Int.natAbs_mul] at e1
  have h3 : u.natAbs * v.natAbs < 2 ^ a * 2 ^ b := Nat.mul_lt_mul'' h1 h2
  rw [e1, ← Nat.pow_add, show a + b = (a + b - U) + U from by omega, Nat.pow_add] at h3
  exact Nat.lt_of_mul_lt_mul_right h3

set_option maxRecDepth 100000 in
theorem muls_all (a b c d : Int) (w : World) :
    Calls Try.prog 5 #[pair2 a b, pair2 c d] w fun z w' => z = .returned (.bool true) ∧ Below w.heap.size w w' := by
  have t1 := (tame_spec a b).1
  have t2 := (tame_spec c d).1
  obtain ⟨X, eX⟩ : ∃ X, tameF a b = X := ⟨_, rfl⟩
  obtain ⟨Y, eY⟩ : ∃ Y, tameG a b = Y := ⟨_, rfl⟩
  obtain ⟨X', eX'⟩ : ∃ X, tameF c d = X := ⟨_, rfl⟩
  obtain ⟨Y', eY'⟩ : ∃ Y, tameG c d = Y := ⟨_, rfl⟩
  rw [eX, eY] at t1
  rw [eX', eY'] at t2
  obtain ⟨k1, k2, k3, k4⟩ := topF_spec t1.sized
  obtain ⟨l1, l2, l3, l4⟩ := topF_spec t2.sized
  have hU := U_eq
  have hBt := Bt_eq
  obtain ⟨⟨A, k, mX, kx1, kx2⟩, B, l, mY, ly1, ly2⟩ := t1.makes
  obtain ⟨⟨A', k', mX', kx1', kx2'⟩, B', l', mY', ly1', ly2'⟩ := t2.makes
  have hP := mk_prod mX mX' (by omega)
  have hQ := mk_prod mX mY' (by omega)
  have hR := mk_prod mY mX' (by omega)
  have hT := mk_prod mY mY' (by omega)
  obtain ⟨p, e, hpr, _, fp, fe, vp, ve⟩ := prodF_spec (j := k + k' - U) mX mX' (by omega) (by omega) (by omega) (by omega)
  obtain ⟨P, eP⟩ : ∃ P, P = A * A' * 2 ^ (k + k' - U) := ⟨_, rfl⟩
  obtain ⟨Q, eQ⟩ : ∃ P, P = A * B' * 2 ^ (k + l' - U) := ⟨_, rfl⟩
  obtain ⟨R, eR⟩ : ∃ P, P = B * A' * 2 ^ (l + k' - U) := ⟨_, rfl⟩
  obtain ⟨T, eT⟩ : ∃ P, P = B * B' * 2 ^ (l + l' - U) := ⟨_, rfl⟩
  rw [← eP] at hP
  rw [← eQ] at hQ
  rw [← eR] at hR
  rw [← eT] at hT
  rw [← rnd_scale, ← eP] at vp
  rw [Int.sub_mul, ← rnd_scale, ← eP] at ve
  have s1 := t1.second
  have s2 := t2.second
  have q1 := scaled_le hP hQ s2
  have q2 := scaled_le (u := iv X') (by rw [Int.mul_comm]; exact hP) (by rw [Int.mul_comm]; exact hR) s1
  have q3 := scaled_le (u := iv Y') (by rw [Int.mul_comm]; exact hQ) (by rw [Int.mul_comm]; exact hT) s1
  have big : P.natAbs < 2 ^ (106 + (k + k' - U)) := by
    have h := mX.lt
    have h' := mX'.lt
    rw [eP, Int.natAbs_mul, Int.natAbs_mul, Int.natAbs_pow, Nat.pow_add]
    exact Nat.mul_lt_mul_of_pos_right (by rw [show (106 : Nat) = 53 + 53 from rfl, Nat.pow_add]; exact Nat.mul_lt_mul'' h h') (Nat.two_pow_pos _)
  have big2 : 16384 * P.natAbs ≤ 2 ^ Bt := by
    have h := pow_mono (a := 106 + (k + k' - U) + 14) (b := Bt) (by omega)
    rw [Nat.pow_add _ _ 14] at h
    have e : (2 : Nat) ^ 14 = 16384 := by decide
    rw [e] at h
    omega
  obtain ⟨M, hM⟩ : ∃ M : Int, M = (P.natAbs : Int) := ⟨_, rfl⟩
  clear eP eQ eR eT
  obtain ⟨S, E, hadd, fS, fE, neat, sS, sE, r1, r2⟩ := mulF_spec (M := M) t1.fX t1.fY t2.fX t2.fY hpr fp fe vp ve hQ hR (T := T) (by omega) (by omega) (by omega) (by omega) (by omega) (by omega) (by omega) (by omega)
    (by rw [hM]; exact_mod_cast big2)
  have hsum : (iv S + iv E).natAbs < 2 ^ Bt := by
    unfold Sm at sS sE
    have := Nat.two_pow_pos Bt
    omega
  obtain ⟨r, hr, fr, vr⟩ := fadd_spec fS fE hsum
  obtain ⟨S1, q4, f1, v1⟩ := fmul_one fS sS
  obtain ⟨E1, q5, f2, v2⟩ := fmul_one fE sE
  obtain ⟨X1, q6, f3, v3⟩ := fmul_mone t1.fX (mX.sm (by omega))
  obtain ⟨Y1, q7, f4, v4⟩ := fmul_mone t1.fY (mY.sm (by omega))
  have nX := mX.neg f3 v3
  have nY := mY.neg f4 v4
  have es : iv S1 + iv E1 + (-P + -Q + -R + -T) = iv S + iv E - (P + Q + R + T) := by omega
  refine muls_any tameF tameG a b c d X Y X' Y' S E r S1 E1 X1 Y1 (-P) (-Q) (-R) (-T) topF w (fun a b w => (tame_spec a b).2 w) eX eY eX' eY' hadd fS fE hr (order_eq fr fS (by rw [vr, ← neat])) q4 q5 q6 q7 f1 f2
    (timesAt_of nX mX' (by omega) (by omega) (by rw [v3, Int.neg_mul, hP, Int.neg_mul])) (timesAt_of nX mY' (by omega) (by omega) (by rw [v3, Int.neg_mul, hQ, Int.neg_mul]))
    (timesAt_of nY mX' (by omega) (by omega) (by rw [v4, Int.neg_mul, hR, Int.neg_mul])) (timesAt_of nY mY' (by omega) (by omega) (by rw [v4, Int.neg_mul, hT, Int.neg_mul]))
    (fun x hx w => ?_) k2 k3 l2 l3 ?_ ?_
  · rcases hx with rfl | rfl
    · exact k1 w
    · exact l1 w
  · rw [es]
    obtain ⟨n, hn⟩ : ∃ n, n = 30 * 110 := ⟨_, rfl⟩
    rw [← hn]
    exact Nat.lt_of_lt_of_le (size_step2 _ M (106 + (k + k' - U)) r1 r2 (by rw [hM]; exact_mod_cast big)) (pow_mono (by omega))
  · intro K hK
    rw [es] at hK
    have zero : P = 0 → K ≤ -1200 := fun h0 => by
      have h := hK 0 (by
        have : iv S + iv E - (P + Q + R + T) = 0 := by omega
        rw [this]; decide)
      omega
    have pz : ∀ {u v : Int}, u * v = P * 2 ^ U → (u = 0 ∨ v = 0) → P = 0 := fun {u v} h h0 => by
      have hp := pow_pos_int U
      have : P * 2 ^ U = 0 := by rw [← h]; rcases h0 with rfl | rfl <;> simp
      rcases Int.mul_eq_zero.1 this with h | h
      · exact h
      · omega
    rcases k4 with ⟨z, _⟩ | ⟨a1, e1, e2, e3, e4⟩
    · exact .inl (zero (pz hP (.inl z)))
    · rcases l4 with ⟨z, _⟩ | ⟨b1, g1, g2, g3, g4⟩
      · exact .inl (zero (pz hP (.inr z)))
      · have hlo := loE_eq
        have h := hK _ (size_step2 _ M (a1 + b1 - U) r1 r2 (by rw [hM]; exact_mod_cast prod_lt hP e2 g2 (by omega)))
        exact .inr (by omega)

end Go.Proofs.Ytnpkblidlmkagaa
