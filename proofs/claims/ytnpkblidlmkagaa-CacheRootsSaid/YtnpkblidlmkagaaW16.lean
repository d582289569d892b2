/- The contract of tame: a tame number made of any bits. -/
import Derived.Test.YtnpkblidlmkagaaW15
set_option linter.unusedSimpArgs false
set_option linter.unusedVariables false
namespace Go.Proofs.Ytnpkblidlmkagaa
open Go.RowKit Fl

theorem iv_fabs {x : Nat} (fx : Fnt x) : iv (fabs x) = ((iv x).natAbs : Int) := by
  rcases Int.lt_trichotomy (iv x) 0 with h | h | h
  · rw [fabs_neg fx h, (fneg_spec fx).2]; omega
  · have h2 := pm_zero fx h
    have e52 : (2 : Int) ^ 52 = 4503599627370496 := by decide
    unfold pm at h2
    have h1 := fx.1
    have : x = 0 ∨ x = 2 ^ 63 := by
      simp only at h2
      split at h2 <;> split at h2 <;> omega
    rcases this with rfl | rfl
    · rw [show fabs 0 = 0 from rfl, iv_zero]; rfl
    · rw [show fabs (2 ^ 63) = 0 from rfl, iv_zero, h]; rfl
  · rw [fabs_pos fx h]; omega

theorem iv_low : iv 2805742567851819008 = 2 ^ 52 * 2 ^ 622 := by
  have h : D.read 2805742567851819008 = .number false (2 ^ 52) ((622 : Nat) - 1074) := by decide +kernel
  rw [iv_signed h, signed_eq]
  simp only [Bool.false_eq_true, if_false, Int.one_mul]
  rfl

abbrev pair2 (a b : Int) : Value := .agg #[.int .i64 a, .int .i64 b]

set_option maxRecDepth 100000 in
theorem tame_zero (a b : Int) (h : Nat) (w : World) (hh : partF a (-140) 280 = h) (h0 : (FloatKind.f64.format.order h 0 == some Ordering.eq) = true) :
    Calls Try.prog 33 #[pair2 a b] w fun z w' => z = .returned (num 0 0) ∧ Below w.heap.size w w' := by
  have p1 := fun w => part_any a (-140) 280 w (by omega) (by omega) (by omega) (by omega)
  rw [hh] at p1
  have P1 := Lib.hid p1
  clear p1 hh
  go_enter Try.func33, Try.ntmps33
  go_wp2_with fail
  refine (P1.out _).mono ?_
  rintro z w' ⟨rfl, rfl⟩
  go_wp2
  refine bodyPost_ret (v := num 0 0) (by simp [results, Try.results33, go_sem]) rfl ⟨rfl, ?_⟩
  exact ((Below.refl _ _).alloc (Nat.le_refl _) _).alloc (by simp) _

set_option maxRecDepth 100000 in
set_option maxHeartbeats 2000000 in
theorem tame_not (a b : Int) (h p q s e r : Nat) (w : World) (hh : partF a (-140) 280 = h) (hp : partF b (-110) 50 = p) (h0 : (FloatKind.f64.format.order h 0 == some Ordering.eq) = false)
    (hq : fmul p h = some q) (hs : sumF h q = some (s, e)) (hr : fadd s e = some r) (hv : (D.order r s == some .eq) = true) (he : e < 2 ^ 64) (X Y : Nat)
    (h1 : ((FloatKind.f64.format.order (fabs e) 2805742567851819008 == some Ordering.lt) = true ∧ X = h ∧ Y = 0) ∨ ((FloatKind.f64.format.order (fabs e) 2805742567851819008 == some Ordering.lt) = false ∧ X = s ∧ Y = e)) :
    Calls Try.prog 33 #[pair2 a b] w fun z w' => z = .returned (num X Y) ∧ Below w.heap.size w w' := by
  have p1 := fun w => part_any a (-140) 280 w (by omega) (by omega) (by omega) (by omega)
  have p2 := fun w => part_any b (-110) 50 w (by omega) (by omega) (by omega) (by omega)
  rw [hh] at p1
  rw [hp] at p2
  replace hq := hmul hq
  have P1 := Lib.hid p1
  have P2 := Lib.hid p2
  have HS := Lib.hid hs
  have HR := Lib.hid hr
  have HV := Lib.hid hv
  have HA := Lib.hid (fun w => abs_any e w he)
  clear p1 p2 hh hp hs hr hv
  rcases h1 with ⟨h1, rfl, rfl⟩ | ⟨h1, rfl, rfl⟩
  · go_enter Try.func33, Try.ntmps33
    go_wp2_with fail
    refine (P1.out _).mono ?_
    rintro z w' ⟨rfl, rfl⟩
    go_wp2_with fail
    refine (P2.out _).mono ?_
    rintro z w' ⟨rfl, rfl⟩
    go_wp2_with (first | simp only [hq] | fail)
    refine (new_any _ _ _ _ _ HS.out).mono ?_
    rintro z w1 ⟨rfl, hb⟩
    obtain ⟨r0, r1, f0, f1⟩ := Two.keep hb (b := w.heap.size + 1) (u := .float .f64 0) (v := .float .f64 0) ⟨by simp [go_sem], by simp [go_sem], by simp [go_sem], by simp [go_sem]⟩
    have hz : w.heap.size + 1 < w1.heap.size := by have := hb.size; simp at this; omega
    have B1 := ((Below.refl _ w).alloc (Nat.le_refl _) _).alloc (by simp) _ |>.trans (hb.mono (by simp; omega))
    clear hb
    go_wp2_with fail
    refine (neat_any _ _ _ _ _ HR.out HV.out).mono ?_
    rintro z w' ⟨rfl, rfl⟩
    go_wp2_with fail
    refine (HA.out _).mono ?_
    rintro z w' ⟨rfl, rfl⟩
    go_wp2
    refine bodyPost_ret (v := num X 0) (by simp [results, Try.results33, go_sem, r0, r1, f0, f1, hz]) rfl ⟨rfl, ?_⟩
    exact ((B1.setCell (p := ⟨_, _, _⟩) (by show w.heap.size ≤ w.heap.size + 1; omega) _).setCell (p := ⟨_, _, _⟩) (by show w.heap.size ≤ w.heap.size + 1; omega) _).alloc (by simp; have := B1.size; omega) _
  · go_enter Try.func33, Try.ntmps33
    go_wp2_with fail
    refine (P1.out _).mono ?_
    rintro z w' ⟨rfl, rfl⟩
    go_wp2_with fail
    refine (P2.out _).mono ?_
    rintro z w' ⟨rfl, rfl⟩
    go_wp2_with (first | simp only [hq] | fail)
    refine (new_any _ _ _ _ _ HS.out).mono ?_
    rintro z w1 ⟨rfl, hb⟩
    obtain ⟨r0, r1, f0, f1⟩ := Two.keep hb (b := w.heap.size + 1) (u := .float .f64 0) (v := .float .f64 0) ⟨by simp [go_sem], by simp [go_sem], by simp [go_sem], by simp [go_sem]⟩
    have hz : w.heap.size + 1 < w1.heap.size := by have := hb.size; simp at this; omega
    have B1 := ((Below.refl _ w).alloc (Nat.le_refl _) _).alloc (by simp) _ |>.trans (hb.mono (by simp; omega))
    clear hb
    go_wp2_with fail
    refine (neat_any _ _ _ _ _ HR.out HV.out).mono ?_
    rintro z w' ⟨rfl, rfl⟩
    go_wp2_with fail
    refine (HA.out _).mono ?_
    rintro z w' ⟨rfl, rfl⟩
    go_wp2
    refine bodyPost_ret (v := num X Y) (by simp [results, Try.results33, go_sem, r0, r1, f0, f1, hz]) rfl ⟨rfl, ?_⟩
    exact ((B1.setCell (p := ⟨_, _, _⟩) (by show w.heap.size ≤ w.heap.size + 1; omega) _).setCell (p := ⟨_, _, _⟩) (by show w.heap.size ≤ w.heap.size + 1; omega) _).alloc (by simp; have := B1.size; omega) _

@[irreducible] def loE : Nat := 933
@[irreducible] def hiE : Nat := 1215
theorem loE_eq : loE = 933 := by unfold loE; rfl
theorem hiE_eq : hiE = 1215 := by unfold hiE; rfl
@[irreducible] def lowE : Nat := 674
theorem lowE_eq : lowE = 674 := by unfold lowE; rfl

/-- What the laws take for a tame number. -/
structure Tame (X Y : Nat) : Prop where
  fX : Fnt X
  fY : Fnt Y
  neat : rnd (iv X + iv Y) = iv X
  size : (iv X = 0 ∧ iv Y = 0) ∨ (2 ^ loE ≤ (iv X).natAbs ∧ (iv X).natAbs < 2 ^ hiE)
  low : iv Y = 0 ∨ 2 ^ lowE ≤ (iv Y).natAbs

theorem tame_nil : Tame 0 0 := ⟨fnt_zero, fnt_zero, by rw [iv_zero]; exact rnd_zero, .inl ⟨iv_zero, iv_zero⟩, .inl iv_zero⟩

theorem pow_le_mul {m k a : Nat} (h : 2 ^ 52 ≤ m) (hk : a ≤ k) : 2 ^ (52 + a) ≤ m * 2 ^ k := by
  rw [Nat.pow_add]; exact Nat.mul_le_mul h (pow_mono hk)
theorem mul_lt_pow {m k b : Nat} (h : m < 2 ^ 53) (hk : k ≤ b) : m * 2 ^ k < 2 ^ (53 + b) := by
  rw [Nat.pow_add]; exact Nat.mul_lt_mul_of_lt_of_le h (pow_mono hk) (Nat.two_pow_pos _)

theorem pow_le_mul2 {m k a l : Nat} (e : l = 52 + a) (h : 2 ^ 52 ≤ m) (hk : a ≤ k) : 2 ^ l ≤ m * 2 ^ k := by rw [e]; exact pow_le_mul h hk
theorem mul_lt_pow2 {m k b l : Nat} (e : l = 53 + b) (h : m < 2 ^ 53) (hk : k ≤ b) : m * 2 ^ k < 2 ^ l := by rw [e]; exact mul_lt_pow h hk

theorem low_le {n a : Nat} (e0 : lowE = 52 + a) (h : ¬ (n : Int) < 2 ^ 52 * 2 ^ a) : 2 ^ lowE ≤ n := by
  rw [e0]
  have e : ((2 ^ (52 + a) : Nat) : Int) = 2 ^ 52 * 2 ^ a := by rw [Int.natCast_pow, ← Int.pow_add]; rfl
  omega

/-- The whole numbers behind 'tame': h and a small part of it. -/
theorem tame_size (H Q S : Int) (a b : Nat) (h1 : 2 ^ a ≤ H.natAbs) (h2 : H.natAbs < 2 ^ b) (hq : 1024 * Q.natAbs ≤ H.natAbs) (hs : S = rnd (H + Q)) (ha : 1 ≤ a) :
    2 ^ (a - 1) ≤ S.natAbs ∧ S.natAbs < 2 ^ (b + 1) := by
  have hr := rnd_rel (H + Q)
  rw [← hs] at hr
  obtain ⟨c, rfl⟩ : ∃ c, a = c + 1 := ⟨a - 1, by omega⟩
  rw [Nat.add_sub_cancel, Nat.pow_succ 2 b]
  rw [Nat.pow_succ] at h1
  generalize 2 ^ c = P at *
  generalize 2 ^ b = R at *
  omega

theorem tame_any (a b : Int) : ∃ X Y, Tame X Y ∧ ∀ w, Calls Try.prog 33 #[pair2 a b] w fun z w' => z = .returned (num X Y) ∧ Below w.heap.size w w' := by
  obtain ⟨fh, hh⟩ := partF_spec a (-140) 280 (by omega) (by omega) (by omega) (by omega)
  obtain ⟨fp, hp⟩ := partF_spec b (-110) 50 (by omega) (by omega) (by omega) (by omega)
  obtain ⟨h, eh⟩ : ∃ h, partF a (-140) 280 = h := ⟨_, rfl⟩
  obtain ⟨p, ep⟩ : ∃ p, partF b (-110) 50 = p := ⟨_, rfl⟩
  rw [eh] at fh hh
  rw [ep] at fp hp
  have e1 : (1022 + (-140 : Int)).toNat = 882 := by decide
  have e2 : (1022 + (-110 : Int)).toNat = 912 := by decide
  rw [e1] at hh
  rw [e2] at hp
  have oh := order_bool fh fnt_zero
  rw [iv_zero] at oh
  by_cases h0 : iv h = 0
  · exact ⟨0, 0, tame_nil, fun w => tame_zero a b h w eh (by show (D.order h 0 == some .eq) = true; rw [oh.1]; simpa using h0)⟩
  · have hmk : ∃ (g : Int) (m k : Nat), (g = 1 ∨ g = -1) ∧ iv h = g * (m : Int) * 2 ^ k ∧ 2 ^ 52 ≤ m ∧ m < 2 ^ 53 ∧ 882 ≤ k ∧ k < 882 + 280 := by
      rcases hh with hh | hh
      · rw [hh] at h0; exact absurd iv_zero h0
      · exact hh
    obtain ⟨g, m, k, hg, vh, m1, m2, k1, k2⟩ := hmk
    have hpm : ∃ (B : Int) (l : Nat), iv p = B * 2 ^ l ∧ B.natAbs < 2 ^ 53 ∧ 912 ≤ l ∧ l < 962 := by
      rcases hp with hp | ⟨g', m', l, hg', vp, n1, n2, l1, l2⟩
      · exact ⟨0, 912, by rw [hp, iv_zero, Int.zero_mul], by decide, by omega, by omega⟩
      · refine ⟨g' * (m' : Int), l, vp, ?_, l1, by omega⟩
        rw [Int.natAbs_mul]
        rcases hg' with rfl | rfl <;> simp <;> omega
    obtain ⟨B, l, vp, B1, l1, l2⟩ := hpm
    have hA : (g * (m : Int)).natAbs = m := by rw [Int.natAbs_mul]; rcases hg with rfl | rfl <;> simp
    -- the product
    have hj : l + k = (l + k - U) + U := by have := U_eq; omega
    have hj2 : l + k - U ≤ 1800 := by have := U_eq; omega
    obtain ⟨j, ej⟩ : ∃ j, j = l + k - U := ⟨_, rfl⟩
    rw [← ej] at hj hj2
    obtain ⟨q, hq, fq, vq⟩ := mul_sc fp fh vp vh hj (Nat.le_trans (natAbs_mul_le (i := 53) (j := 53) (Nat.le_of_lt B1) (by rw [hA]; omega)) (by decide)) hj2
    have vha : (iv h).natAbs = m * 2 ^ k := by rw [vh]; exact natAbs_sm g m k hg
    obtain ⟨la, hla⟩ : ∃ la, la = 52 + 882 := ⟨_, rfl⟩
    obtain ⟨lb, hlb⟩ : ∃ lb, lb = 53 + 1161 := ⟨_, rfl⟩
    have hlo : 2 ^ la ≤ (iv h).natAbs := by
      rw [vha]
      exact pow_le_mul2 hla m1 k1
    have hhi : (iv h).natAbs < 2 ^ lb := by
      rw [vha]
      exact mul_lt_pow2 hlb m2 (by omega)
    have hqs : 1024 * (iv q).natAbs ≤ (iv h).natAbs := by
      have hr := rnd_abs (B * (g * (m : Int)))
      have h9 : (B * (g * (m : Int))).natAbs ≤ 2 ^ 53 * m := by
        rw [Int.natAbs_mul, hA]; exact Nat.mul_le_mul_right _ (Nat.le_of_lt B1)
      rw [vq, Int.natAbs_mul, Int.natAbs_pow, vha]
      show 1024 * ((rnd (B * (g * (m : Int)))).natAbs * 2 ^ j) ≤ m * 2 ^ k
      have hk : 2 ^ k = 2 ^ (k - j) * 2 ^ j := by rw [← Nat.pow_add]; congr 1; have := U_eq; omega
      have hkj : 2 ^ 64 ≤ 2 ^ (k - j) := pow_mono (by have := U_eq; omega)
      rw [hk, ← Nat.mul_assoc, ← Nat.mul_assoc]
      refine Nat.mul_le_mul_right _ ?_
      have : 1024 * (rnd (B * (g * (m : Int)))).natAbs ≤ 2 ^ 64 * m := by omega
      rw [Nat.mul_comm m]
      exact Nat.le_trans this (Nat.mul_le_mul_right _ hkj)
    have sh : Sm (iv h) := sm_of_lt (k := lb) hhi (by omega)
    have sq : Sm (iv q) := by unfold Sm at *; omega
    obtain ⟨s, e, h1, fs, fe, vs, ve⟩ := sumF_spec fh fq sh sq
    have nea : rnd (iv s + iv e) = iv s := by rw [ve, show iv s + (iv h + iv q - iv s) = iv h + iv q from by omega, ← vs]
    obtain ⟨r, h2, fr, vr⟩ := fadd_spec fs fe (by
      rw [ve, show iv s + (iv h + iv q - iv s) = iv h + iv q from by omega]
      have hp := Nat.two_pow_pos Bt
      unfold Sm at sh sq
      omega)
    rw [nea] at vr
    have fl : Fnt 2805742567851819008 := by decide
    have oe := order_bool (fabs_fnt fe) fl
    have hz0 : (FloatKind.f64.format.order h 0 == some Ordering.eq) = false := by show (D.order h 0 == some .eq) = false; rw [oh.1]; simpa using h0
    have hsz := tame_size (iv h) (iv q) (iv s) la lb hlo hhi hqs vs (by omega)
    by_cases hlt : (FloatKind.f64.format.order (fabs e) 2805742567851819008 == some Ordering.lt) = true
    · refine ⟨h, 0, ⟨fh, fnt_zero, by rw [iv_zero, Int.add_zero]; exact (rep_iv fh).rnd_eq, .inr ⟨Nat.le_trans (pow_mono (a := loE) (b := la) (by have := loE_eq; omega)) hlo, Nat.lt_of_lt_of_le hhi (pow_mono (a := lb) (b := hiE) (by have := hiE_eq; omega))⟩, .inl iv_zero⟩, fun w => ?_⟩
      exact tame_not a b h p q s e r w eh ep hz0 hq h1 h2 (order_eq fr fs vr) fe.1 h 0 (.inl ⟨hlt, rfl, rfl⟩)
    · have hlt' : (FloatKind.f64.format.order (fabs e) 2805742567851819008 == some Ordering.lt) = false := by simpa using hlt
      refine ⟨s, e, ⟨fs, fe, nea, .inr ⟨Nat.le_trans (pow_mono (a := loE) (b := la - 1) (by have := loE_eq; omega)) hsz.1, Nat.lt_of_lt_of_le hsz.2 (pow_mono (a := lb + 1) (b := hiE) (by have := hiE_eq; omega))⟩, .inr ?_⟩, fun w => ?_⟩
      · have h5 : (D.order (fabs e) 2805742567851819008 == some .lt) = false := hlt'
        rw [oe.2.1] at h5
        have h6 : ¬ iv (fabs e) < iv 2805742567851819008 := by simpa using h5
        rw [iv_fabs fe, iv_low] at h6
        exact low_le (a := 622) lowE_eq h6
      · exact tame_not a b h p q s e r w eh ep hz0 hq h1 h2 (order_eq fr fs vr) fe.1 s e (.inr ⟨hlt', rfl, rfl⟩)

end Go.Proofs.Ytnpkblidlmkagaa
