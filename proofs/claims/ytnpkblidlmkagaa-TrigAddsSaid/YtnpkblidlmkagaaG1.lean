/- Products of two numbers, of any sizes up to 2^60: near up to an absolute error. -/
import Derived.Test.YtnpkblidlmkagaaG0
set_option linter.unusedSimpArgs false
set_option linter.unusedVariables false
namespace Go.Proofs.Ytnpkblidlmkagaa
open Fl

theorem splitH_le (A : Int) : (splitH A).natAbs ≤ 2 * A.natAbs ∧ (splitL A).natAbs ≤ 6 * A.natAbs := by
  have e53 : (2 : Int) ^ 53 = 9007199254740992 := by decide
  have h1 := rnd_rel (134217729 * A)
  have h2 := rnd_rel (rnd (134217729 * A) - A)
  have h3 := rnd_rel (rnd (134217729 * A) - rnd (rnd (134217729 * A) - A))
  have hH : splitH A = rnd (rnd (134217729 * A) - rnd (rnd (134217729 * A) - A)) := rfl
  have hL : splitL A = rnd (A - splitH A) := rfl
  have h4 := rnd_rel (A - splitH A)
  rw [← hH] at h3
  rw [← hL] at h4
  rw [e53] at h1 h2 h3 h4
  clear hH hL
  generalize splitL A = l at *
  generalize splitH A = h at *
  generalize rnd (rnd (134217729 * A) - A) = d at *
  generalize rnd (134217729 * A) = c at *
  obtain ⟨u, hu⟩ : ∃ u : Int, u = A.natAbs := ⟨_, rfl⟩
  have a1 : A ≤ u ∧ -u ≤ A ∧ 0 ≤ u := by omega
  have c1 : 33554432 * (c - 134217729 * A) ≤ u ∧ -u ≤ 33554432 * (c - 134217729 * A) := by omega
  clear h1
  have d1 : 33554432 * (d - (c - A)) ≤ u ∧ -u ≤ 33554432 * (d - (c - A)) := by omega
  clear h2
  have b1 : h ≤ 2 * u ∧ -(2 * u) ≤ h := by omega
  clear h3 c1 d1
  have b2 : l ≤ 6 * u ∧ -(6 * u) ≤ l := by omega
  omega

theorem fmul_rough {x y : Nat} {K S : Int} (hS : S = ((2 ^ U : Nat) : Int)) (hx : Fnt x) (hy : Fnt y) (h1 : ((iv x * iv y).natAbs : Int) ≤ K * S) (hK : 16384 * K ≤ ((2 ^ Bt : Nat) : Int)) (hK0 : 1 ≤ K) :
    ∃ z, fmul x y = some z ∧ Fnt z ∧ -(3 * K + 16) ≤ iv z ∧ iv z ≤ 3 * K + 16 := by
  have hSp : 0 < S := by rw [hS]; have := Nat.two_pow_pos U; omega
  have hb : (iv x * iv y).natAbs < 2 ^ (Bt + U) := by
    have h2 : K * S < ((2 ^ (Bt + U) : Nat) : Int) := by
      rw [Nat.pow_add, Int.natCast_mul, ← hS]
      exact Int.mul_lt_mul_of_pos_right (by omega) hSp
    omega
  obtain ⟨z, Q, h2, fz, q1, q2, z1, z2⟩ := fmul_near hx hy hb
  rw [← hS] at q1 q2
  have k1 : Q ≤ K := by
    refine Int.le_of_mul_le_mul_right ?_ hSp
    omega
  have k2 : -(K + 1) ≤ Q := by
    refine Int.le_of_mul_le_mul_right ?_ hSp
    rw [Int.neg_mul, Int.add_mul, Int.one_mul]
    omega
  refine ⟨z, h2, fz, ?_, ?_⟩ <;> omega

theorem mul_nat_le {a b A B : Nat} {p q : Nat} (h1 : a ≤ p * A) (h2 : b ≤ q * B) : a * b ≤ (p * q) * (A * B) := by
  have := Nat.mul_le_mul h1 h2
  calc a * b ≤ p * A * (q * B) := this
    _ = p * q * (A * B) := by rw [Nat.mul_mul_mul_comm]

/-- The product and what it lacks, roughly, where the product is tiny. -/
theorem prodF_rough {x y : Nat} {K S : Int} (hS : S = ((2 ^ U : Nat) : Int)) (hx : Fnt x) (hy : Fnt y) (lx : (iv x).natAbs < 2 ^ (U + 61)) (ly : (iv y).natAbs < 2 ^ (U + 61))
    (h1 : ((iv x * iv y).natAbs : Int) ≤ K * S) (hK : K ≤ 1393796574908163946345982392040522594123776) (hK0 : 1 ≤ K) :
    ∃ p e, prodF x y = some (p, e) ∧ Fnt p ∧ Fnt e ∧ -(3 * K + 16) ≤ iv p ∧ iv p ≤ 3 * K + 16 ∧ -(8192 * K + 8192) ≤ iv e ∧ iv e ≤ 8192 * K + 8192 := by
  have hBt := Bt_eq
  have hU := U_eq
  have hbig : (1393796574908163946345982392040522594123776 * 1393796574908163946345982392040522594123776 : Int) ≤ ((2 ^ Bt : Nat) : Int) := by
    obtain ⟨m, hm⟩ : ∃ m : Nat, m = 140 := ⟨_, rfl⟩
    have h9 : 2 ^ m * 2 ^ m ≤ 2 ^ Bt := by rw [← Nat.pow_add]; exact pow_mono (by omega)
    have e : (2 : Nat) ^ m = 1393796574908163946345982392040522594123776 := by rw [hm]
    rw [e] at h9
    exact Int.ofNat_le.2 h9
  have hKB : 16384 * 16384 * 16384 * K ≤ ((2 ^ Bt : Nat) : Int) := by omega
  have sc : ∀ {u v : Nat} {p q : Nat}, (iv u).natAbs ≤ p * (iv x).natAbs → (iv v).natAbs ≤ q * (iv y).natAbs → p * q ≤ 36 → ((iv u * iv v).natAbs : Int) ≤ (36 * K) * S := by
    intro u v p q a b c
    have h9 := mul_nat_le a b
    rw [← Int.natAbs_mul, ← Int.natAbs_mul] at h9
    have h10 : (iv u * iv v).natAbs ≤ 36 * (iv x * iv y).natAbs := Nat.le_trans h9 (Nat.mul_le_mul_right _ c)
    rw [Int.mul_assoc]
    omega
  -- the makes of the two
  have mk : ∀ {z : Nat}, Fnt z → (iv z).natAbs < 2 ^ (U + 61) → ∃ (A : Int) (k : Nat), iv z = A * 2 ^ k ∧ A.natAbs ≤ 2 ^ 53 ∧ k ≤ 1800 := by
    intro z fz lz
    have e := iv_parts fz
    have h9 := pe_hi fz lz
    refine ⟨pm z, (pe z + 1074).toNat, e.1, by have e53 : (2 : Nat) ^ 53 = 9007199254740992 := by decide
                                               omega, by omega⟩
  obtain ⟨A, k, ex, hA, hk⟩ := mk hx lx
  obtain ⟨B, l, ey, hB, hl⟩ := mk hy ly
  obtain ⟨a1, a2, s1, f1, f2, v1, v2, _, _⟩ := splitF_spec hx ex hA hk
  obtain ⟨b1, b2, s2, g1, g2, u1, u2, _, _⟩ := splitF_spec hy ey hB hl
  obtain ⟨hA1, hA2⟩ := splitH_le A
  obtain ⟨hB1, hB2⟩ := splitH_le B
  have up : ∀ {z w : Nat} {C D : Int} {j p : Nat}, iv z = C * 2 ^ j → iv w = D * 2 ^ j → D.natAbs ≤ p * C.natAbs → (iv w).natAbs ≤ p * (iv z).natAbs := by
    intro z w C D j p e1 e2 h
    rw [e1, e2, Int.natAbs_mul, Int.natAbs_mul, ← Nat.mul_assoc]
    exact Nat.mul_le_mul_right _ h
  have x1 := up ex v1 hA1
  have x2 := up ex v2 hA2
  have y1 := up ey u1 hB1
  have y2 := up ey u2 hB2
  obtain ⟨p, hp, fp, p1, p2⟩ := fmul_rough hS hx hy h1 (by omega) hK0
  obtain ⟨q1, hq1, fq1, c1, d1⟩ := fmul_rough (K := 36 * K) hS f1 g1 (sc x1 y1 (by decide)) (by omega) (by omega)
  obtain ⟨q2, hq2, fq2, c2, d2⟩ := fmul_rough (K := 36 * K) hS f1 g2 (sc x1 y2 (by decide)) (by omega) (by omega)
  obtain ⟨q3, hq3, fq3, c3, d3⟩ := fmul_rough (K := 36 * K) hS f2 g1 (sc x2 y1 (by decide)) (by omega) (by omega)
  obtain ⟨q4, hq4, fq4, c4, d4⟩ := fmul_rough (K := 36 * K) hS f2 g2 (sc x2 y2 (by decide)) (by omega) (by omega)
  clear sc mk up x1 x2 y1 y2
  obtain ⟨e1, he1, fe1, ve1⟩ := fsub_spec fq1 fp (by omega)
  have r1 := rnd_bd (n := iv q1 - iv p) (K := 111 * K + 32) (by omega) (by omega)
  rw [← ve1] at r1
  obtain ⟨e2, he2, fe2, ve2⟩ := fadd_spec fe1 fq2 (by omega)
  have r2 := rnd_bd (n := iv e1 + iv q2) (K := 330 * K + 80) (by omega) (by omega)
  rw [← ve2] at r2
  obtain ⟨e3, he3, fe3, ve3⟩ := fadd_spec fe2 fq3 (by omega)
  have r3 := rnd_bd (n := iv e2 + iv q3) (K := 768 * K + 176) (by omega) (by omega)
  rw [← ve3] at r3
  obtain ⟨e4, he4, fe4, ve4⟩ := fadd_spec fe3 fq4 (by omega)
  have r4 := rnd_bd (n := iv e3 + iv q4) (K := 1644 * K + 368) (by omega) (by omega)
  rw [← ve4] at r4
  refine ⟨p, e4, ?_, fp, fe4, p1, p2, by omega, by omega⟩
  simp only [prodF, hp, s1, s2, hq1, hq2, hq3, hq4, he1, he2, he3, he4, Option.bind_some]

/-- The product of two numbers, where it is tiny. -/
theorem mulF_tiny {a b c d : Nat} {K S : Int} (hS : S = ((2 ^ U : Nat) : Int)) (fa : Fnt a) (fb : Fnt b) (fc : Fnt c) (fd : Fnt d) (na : rnd (iv a + iv b) = iv a) (nc : rnd (iv c + iv d) = iv c)
    (lx : (iv a).natAbs < 2 ^ (U + 61)) (ly : (iv c).natAbs < 2 ^ (U + 61)) (h1 : ((iv a * iv c).natAbs : Int) ≤ K * S) (hK : K ≤ 1393796574908163946345982392040522594123776) (hK0 : 1 ≤ K) :
    ∃ x y, mulF (a, b) (c, d) = some (x, y) ∧ Fnt x ∧ Fnt y ∧ iv x = rnd (iv x + iv y) ∧ Sm (iv x) ∧ Sm (iv y) ∧ -(20000 * K + 20000) ≤ iv x + iv y ∧ iv x + iv y ≤ 20000 * K + 20000 := by
  have hBt := Bt_eq
  have hbig : (1393796574908163946345982392040522594123776 * 1393796574908163946345982392040522594123776 : Int) ≤ ((2 ^ Bt : Nat) : Int) := by
    obtain ⟨m, hm⟩ : ∃ m : Nat, m = 140 := ⟨_, rfl⟩
    have h9 : 2 ^ m * 2 ^ m ≤ 2 ^ Bt := by rw [← Nat.pow_add]; exact pow_mono (by omega)
    have e : (2 : Nat) ^ m = 1393796574908163946345982392040522594123776 := by rw [hm]
    rw [e] at h9
    exact Int.ofNat_le.2 h9
  have hKB : 16384 * 16384 * 16384 * K ≤ ((2 ^ Bt : Nat) : Int) := by omega
  have tb : 9007199254740990 * (iv b).natAbs ≤ (iv a).natAbs := by have := tame_second na; omega
  have td : 9007199254740990 * (iv d).natAbs ≤ (iv c).natAbs := by have := tame_second nc; omega
  obtain ⟨w1, w2, _⟩ := parts4 (c := iv a) (d := iv b) (e := iv c) (f := iv d) tb td
  obtain ⟨p, e, hp, fp, fe, p1, p2, e1, e2⟩ := prodF_rough hS fa fc lx ly h1 hK hK0
  have hKS : ∀ {n : Int}, 9007199254740990 * n.natAbs ≤ (iv a * iv c).natAbs → ((n.natAbs : Nat) : Int) ≤ K * S := fun {n} h => by omega
  obtain ⟨q, hq, fq, q1, q2⟩ := fmul_rough hS fa fd (hKS w1) (by omega) hK0
  obtain ⟨r, hr, fr, r1, r2⟩ := fmul_rough hS fb fc (hKS w2) (by omega) hK0
  clear hKS w1 w2
  obtain ⟨t, ht, ft, vt⟩ := fadd_spec fq fr (by omega)
  have t1 := rnd_bd (n := iv q + iv r) (K := 6 * K + 32) (by omega) (by omega)
  rw [← vt] at t1
  obtain ⟨g, hg, fg, vg⟩ := fadd_spec fe ft (by omega)
  have g1 := rnd_bd (n := iv e + iv t) (K := 8204 * K + 8256) (by omega) (by omega)
  rw [← vg] at g1
  have sml : ∀ n : Int, -(100000 * K + 100000) ≤ n → n ≤ 100000 * K + 100000 → Sm n := fun n h1 h2 => sm_of_le (K := 100000 * K + 100000) h1 h2 (by omega)
  obtain ⟨x, y, hs, fx, fy, vx, vy⟩ := sumF_spec fp fg (sml _ (by omega) (by omega)) (sml _ (by omega) (by omega))
  have x1 := rnd_bd (n := iv p + iv g) (K := 16412 * K + 16528) (by omega) (by omega)
  rw [← vx] at x1
  refine ⟨x, y, ?_, fx, fy, ?_, sml _ (by omega) (by omega), sml _ (by omega) (by omega), by omega, by omega⟩
  · simp only [mulF, hp, hq, hr, ht, hg, hs, Option.bind_some]
  · rw [vy, vx]; congr 1; omega

end Go.Proofs.Ytnpkblidlmkagaa
