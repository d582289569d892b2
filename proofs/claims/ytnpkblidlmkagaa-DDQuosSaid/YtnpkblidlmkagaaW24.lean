/- DDAdds: the walk and the plain law joined. -/
import Derived.Test.YtnpkblidlmkagaaW23
set_option linter.unusedSimpArgs false
set_option linter.unusedVariables false
namespace Go.Proofs.Ytnpkblidlmkagaa
open Go.RowKit Fl

theorem fnt_mone : Fnt 13830554455654793216 := by decide +kernel

set_option maxRecDepth 100000 in
theorem iv_mone : iv 13830554455654793216 = -(2 ^ U) := by
  have h : 13830554455654793216 = fneg 4607182418800017408 := by decide +kernel
  rw [h, (fneg_spec fnt_one).2, iv_one]

theorem fmul_mone {x : Nat} (hx : Fnt x) (sx : Sm (iv x)) : ∃ z, fmul 13830554455654793216 x = some z ∧ Fnt z ∧ iv z = - iv x := by
  have hb : (-(iv x)).natAbs < 2 ^ Bt := by
    unfold Sm at sx
    have := Nat.two_pow_pos Bt
    omega
  obtain ⟨z, h1, h2, h3⟩ := fmul_whole fnt_mone hx (p := -(iv x)) (by rw [iv_mone, Int.neg_mul, Int.neg_mul, Int.mul_comm]) hb
  exact ⟨z, h1, h2, by rw [h3, rnd_neg, Rep.rnd_eq (rep_iv hx)]⟩

theorem tame_second {X Y : Int} (h : rnd (X + Y) = X) : 9007199254740990 * Y ≤ X.natAbs ∧ -(X.natAbs : Int) ≤ 9007199254740990 * Y := by
  have := rnd_rel (X + Y)
  rw [h] at this
  omega

theorem size_step (err : Int) (M : Int) (E : Nat) (h1 : 2 ^ 97 * err ≤ M) (h2 : -M ≤ 2 ^ 97 * err) (hM : M < ((2 ^ E : Nat) : Int)) : (err * 2 ^ 126).natAbs < 2 ^ (E + 30) := by
  rw [Nat.pow_add]
  generalize 2 ^ E = P at *
  have e : (2 : Int) ^ 97 = 158456325028528675187087900672 := by decide
  have e2 : (2 : Int) ^ 126 = 85070591730234615865843651857942052864 := by decide
  have e3 : (2 : Nat) ^ 30 = 1073741824 := by decide
  rw [e] at h1 h2
  rw [e2, e3]
  omega

noncomputable def tameF (a b : Int) : Nat := Classical.choose (tame_any a b)
noncomputable def tameG (a b : Int) : Nat := Classical.choose (Classical.choose_spec (tame_any a b))
theorem tame_spec (a b : Int) : Tame (tameF a b) (tameG a b) ∧ ∀ w, Calls Try.prog 33 #[pair2 a b] w fun z w' => z = .returned (num (tameF a b) (tameG a b)) ∧ Below w.heap.size w w' :=
  Classical.choose_spec (Classical.choose_spec (tame_any a b))

def Sized (x : Nat) : Prop := Fnt x ∧ (iv x = 0 ∨ (2 ^ loE ≤ (iv x).natAbs ∧ (iv x).natAbs < 2 ^ hiE))
open Classical in
noncomputable def topF (x : Nat) : Int := if h : Sized x then Classical.choose (top_any x h.1 h.2) else 0
theorem topF_spec {x : Nat} (h : Sized x) : (∀ w, Calls Try.prog 38 #[.float .f64 x] w fun z w' => z = .returned (.int .i64 (topF x)) ∧ w = w') ∧ -1200 ≤ topF x ∧ topF x ≤ 200 ∧
      ((iv x = 0 ∧ topF x = -1200) ∨ ∃ E : Nat, (E : Int) = topF x + 1074 ∧ (iv x).natAbs < 2 ^ E ∧ 2 ^ (E - 1) ≤ (iv x).natAbs ∧ loE ≤ E) := by
  unfold topF
  rw [dif_pos h]
  exact Classical.choose_spec (top_any x h.1 h.2)

theorem Tame.sized {X Y : Nat} (t : Tame X Y) : Sized X := ⟨t.fX, t.size.imp (fun h => h.1) id⟩

theorem adds_all (a b c d : Int) (w : World) :
    Calls Try.prog 6 #[pair2 a b, pair2 c d] w fun z w' => z = .returned (.bool true) ∧ Below w.heap.size w w' := by
  have t1 := (tame_spec a b).1
  have t2 := (tame_spec c d).1
  obtain ⟨X, eX⟩ : ∃ X, tameF a b = X := ⟨_, rfl⟩
  obtain ⟨Y, eY⟩ : ∃ Y, tameG a b = Y := ⟨_, rfl⟩
  obtain ⟨X', eX'⟩ : ∃ X, tameF c d = X := ⟨_, rfl⟩
  obtain ⟨Y', eY'⟩ : ∃ Y, tameG c d = Y := ⟨_, rfl⟩
  rw [eX, eY] at t1
  rw [eX', eY'] at t2
  obtain ⟨k1, k2, k3, k4⟩ := topF_spec t1.sized
  obtain ⟨l1, l2, l3, l4⟩ := topF_spec t2.sized
  have big : ∀ {x y : Nat}, Tame x y → ((iv x).natAbs : Int) < ((2 ^ hiE : Nat) : Int) := fun {x y} t => by
    rcases t.size with h | h
    · rw [h.1]
      show ((0 : Nat) : Int) < _
      exact_mod_cast Nat.two_pow_pos hiE
    · exact_mod_cast h.2
  have g1 := big t1
  have g2 := big t2
  have hT : 16384 * ((2 ^ hiE : Nat) : Int) ≤ ((2 ^ Bt : Nat) : Int) := by
    have h := pow_mono (a := hiE + 14) (b := Bt) (by have := hiE_eq; have := Bt_eq; omega)
    rw [Nat.pow_add] at h
    have e : (2 : Nat) ^ 14 = 16384 := by decide
    rw [e] at h
    generalize 2 ^ hiE = P at *
    generalize 2 ^ Bt = Q at *
    omega
  obtain ⟨M, hM⟩ : ∃ M : Int, M = if (iv X).natAbs ≤ (iv X').natAbs then ((iv X').natAbs : Int) else ((iv X).natAbs : Int) := ⟨_, rfl⟩
  have m1 : ((iv X).natAbs : Int) ≤ M ∧ ((iv X').natAbs : Int) ≤ M := by rw [hM]; split <;> omega
  have m2 : M = ((iv X).natAbs : Int) ∨ M = ((iv X').natAbs : Int) := by rw [hM]; split <;> simp
  have m3 : M < ((2 ^ hiE : Nat) : Int) := by rcases m2 with h | h <;> omega
  clear hM
  obtain ⟨S, E, hadd, fS, fE, neat, sS, sE, r1, r2⟩ := addF_spec t1.fX t1.fY t2.fX t2.fY t1.neat t2.neat (M := M) (by omega) (by omega) (by omega) (by omega) (by omega)
  have s1 := tame_second t1.neat
  have s2 := tame_second t2.neat
  have sml : ∀ n : Int, -M ≤ n → n ≤ M → Sm n := fun n h1 h2 => sm_of_le (K := M) h1 h2 (by omega)
  have hsum : (iv S + iv E).natAbs < 2 ^ Bt := by
    unfold Sm at sS sE
    have := Nat.two_pow_pos Bt
    omega
  obtain ⟨r, hr, fr, vr⟩ := fadd_spec fS fE hsum
  obtain ⟨S1, q1, f1, v1⟩ := fmul_one fS sS
  obtain ⟨E1, q2, f2, v2⟩ := fmul_one fE sE
  obtain ⟨X1, q3, f3, v3⟩ := fmul_mone t1.fX (sml _ (by omega) (by omega))
  obtain ⟨Y1, q4, f4, v4⟩ := fmul_mone t1.fY (sml _ (by omega) (by omega))
  obtain ⟨X2, q5, f5, v5⟩ := fmul_mone t2.fX (sml _ (by omega) (by omega))
  obtain ⟨Y2, q6, f6, v6⟩ := fmul_mone t2.fY (sml _ (by omega) (by omega))
  have es : iv S1 + iv E1 + (iv X1 + iv Y1) + (iv X2 + iv Y2) = iv S + iv E - (iv X + iv Y + iv X' + iv Y') := by omega
  refine adds_any tameF tameG a b c d X Y X' Y' S E r S1 E1 X1 Y1 X2 Y2 topF w (fun a b w => (tame_spec a b).2 w) eX eY eX' eY' hadd fS fE hr (order_eq fr fS (by rw [vr, ← neat])) q1 q2 q3 q4 q5 q6 f1 f2 f3 f4 f5 f6
    (fun x hx w => ?_) k2 k3 l2 l3 ?_ ?_
  · rcases hx with rfl | rfl
    · exact k1 w
    · exact l1 w
  · rw [es]
    obtain ⟨n, hn⟩ : ∃ n, n = 30 * 110 := ⟨_, rfl⟩
    rw [← hn]
    exact Nat.lt_of_lt_of_le (size_step _ M hiE r1 r2 m3) (pow_mono (by have := hiE_eq; omega))
  · intro K hK
    rw [es] at hK
    have zero : M = 0 → K ≤ -1200 := fun h0 => by
      have h := hK 0 (by
        have : iv S + iv E - (iv X + iv Y + iv X' + iv Y') = 0 := by omega
        rw [this]; decide)
      omega
    rcases m2 with hm | hm
    · rcases k4 with ⟨z, _⟩ | ⟨E', e1, e2, e3, e4⟩
      · exact .inl (zero (by rw [hm, z]; rfl))
      · have h := hK (E' + 30) (size_step _ M E' r1 r2 (by rw [hm]; exact_mod_cast e2))
        exact .inr (.inl (by omega))
    · rcases l4 with ⟨z, _⟩ | ⟨E', e1, e2, e3, e4⟩
      · exact .inl (zero (by rw [hm, z]; rfl))
      · have h := hK (E' + 30) (size_step _ M E' r1 r2 (by rw [hm]; exact_mod_cast e2))
        exact .inr (.inr (by omega))

end Go.Proofs.Ytnpkblidlmkagaa
