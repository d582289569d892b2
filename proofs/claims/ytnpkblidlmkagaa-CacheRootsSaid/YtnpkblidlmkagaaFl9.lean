/- Products and quotients of floats, small ones too: how near they are. -/
import Derived.Test.YtnpkblidlmkagaaFl8
set_option linter.unusedSimpArgs false
set_option linter.unusedVariables false
namespace Go.Proofs.Ytnpkblidlmkagaa
open Fl Ieee

theorem rns_rel (s N : Nat) : 2 ^ 53 * (rns s N * 2 ^ s) ≤ 2 ^ 53 * N + (N + 2 ^ 52 * 2 ^ s) ∧ 2 ^ 53 * N ≤ 2 ^ 53 * (rns s N * 2 ^ s) + (N + 2 ^ 52 * 2 ^ s) := by
  obtain ⟨h1, h2, _⟩ := ce_near N (lvs s N)
  have hlo := lvs_lo s N
  have hge : s ≤ lvs s N := by unfold lvs; omega
  have e : rns s N * 2 ^ s = ce N (lvs s N) * 2 ^ lvs s N := by
    unfold rns
    rw [Nat.mul_assoc, ← Nat.pow_add, show lvs s N - s + s = lvs s N from by omega]
  rw [e]
  have hk : 2 ^ 52 * 2 ^ lvs s N ≤ N + 2 ^ 52 * 2 ^ s := by
    rcases hlo with h | h
    · rw [h]; omega
    · rw [Nat.pow_add] at h; omega
  generalize ce N (lvs s N) * 2 ^ lvs s N = q at *
  generalize 2 ^ lvs s N = P at *
  generalize 2 ^ s = S at *
  omega

set_option maxRecDepth 100000 in
theorem fmul_rel {x y : Nat} (hx : Fnt x) (hy : Fnt y) (hb : (iv x * iv y).natAbs < 2 ^ (Bt + U)) :
    ∃ z, fmul x y = some z ∧ Fnt z ∧ 2 ^ 53 * (iv z * 2 ^ U - iv x * iv y) ≤ (iv x * iv y).natAbs + 2 ^ 52 * 2 ^ U ∧ 2 ^ 53 * (iv x * iv y - iv z * 2 ^ U) ≤ (iv x * iv y).natAbs + 2 ^ 52 * 2 ^ U := by
  obtain ⟨z, h1, h2, h3, h4, h5⟩ := fmul_spec hx hy hb
  have hr := rns_rel U (iv x * iv y).natAbs
  rw [← h3] at hr
  refine ⟨z, h1, h2, ?_⟩
  have e : ((2 ^ U : Nat) : Int) = 2 ^ U := Int.natCast_pow _ _
  generalize iv x * iv y = p at *
  generalize iv z = v at *
  obtain ⟨a, b⟩ := hr
  have e53 : (2 : Int) ^ 53 = 9007199254740992 := by decide
  have e52 : (2 : Int) ^ 52 = 4503599627370496 := by decide
  have n53 : (2 : Nat) ^ 53 = 9007199254740992 := by decide
  have n52 : (2 : Nat) ^ 52 = 4503599627370496 := by decide
  rw [n53, n52] at a b
  rw [e53, e52, ← e]
  have hw : ((v.natAbs * 2 ^ U : Nat) : Int) = (v.natAbs : Int) * ((2 ^ U : Nat) : Int) := Int.natCast_mul _ _
  generalize (2 : Nat) ^ U = P at *
  by_cases hp : 0 ≤ p
  · have hv := h4 hp
    have ev : (v.natAbs : Int) = v := by omega
    rw [ev] at hw
    rw [← hw]
    generalize v.natAbs * P = w at *
    clear hw e h3
    constructor <;> omega
  · have hv := h5 (by omega)
    have ev : (v.natAbs : Int) = -v := by omega
    rw [ev, Int.neg_mul] at hw
    generalize v.natAbs * P = w at *
    generalize v * (P : Int) = u at *
    clear e h3
    constructor <;> omega

/-- The bare quotient of two whole numbers and what it lacks. -/
theorem quot_rel (m n : Nat) (hm : m < 2 ^ 53) (hm0 : m ≠ 0) (hn : n ≠ 0) : ∀ more q, more = 54 + n.log2 - m.log2 → q = 2 * ((m <<< more) / n) + ((m <<< more) % n != 0).toNat →
    q * n ≤ m * 2 ^ (more + 1) + n ∧ m * 2 ^ (more + 1) ≤ q * n + n ∧ 2 ^ 54 * n ≤ m * 2 ^ (more + 1) := by
  intro more q h1 h2
  have hl : m.log2 < 53 := (Nat.log2_lt hm0).2 hm
  have h3 : 2 ^ m.log2 ≤ m := Nat.log2_self_le hm0
  have h4 : n < 2 ^ (n.log2 + 1) := Nat.lt_log2_self
  rw [Nat.shiftLeft_eq] at h2
  have e : m * 2 ^ (more + 1) = 2 * (m * 2 ^ more) := by rw [Nat.pow_succ, ← Nat.mul_assoc, Nat.mul_comm]
  rw [e]
  have hbig : 2 ^ 53 * n ≤ m * 2 ^ more := by
    have a : 2 ^ m.log2 * 2 ^ more ≤ m * 2 ^ more := Nat.mul_le_mul_right _ h3
    rw [← Nat.pow_add, show m.log2 + more = 53 + (n.log2 + 1) from by omega, Nat.pow_add] at a
    omega
  have hd := Nat.div_add_mod (m * 2 ^ more) n
  have hr := Nat.mod_lt (m * 2 ^ more) (show 0 < n by omega)
  generalize m * 2 ^ more = D at *
  have eq : q * n = 2 * (n * (D / n)) + (D % n != 0).toNat * n := by
    rw [h2, Nat.add_mul, Nat.mul_assoc, Nat.mul_comm (D / n) n]
  rw [eq]
  generalize n * (D / n) = A at *
  by_cases hz : D % n = 0
  · simp [hz] at *
    omega
  · have : (D % n != 0) = true := by simpa using hz
    rw [this]
    simp
    omega

theorem quot_scaled (V X Y G N S W q n m : Nat) (P : Nat) (hVS : 2 ^ 53 * (V * S) ≤ 2 ^ 53 * N + (N + 2 ^ 52 * S)) (hSV : 2 ^ 53 * N ≤ 2 ^ 53 * (V * S) + (N + 2 ^ 52 * S)) (hN : N = q * W) (hS : n * S = Y * G) (hX : m * W = X * P * G)
    (h1 : q * n ≤ m + n) (h2 : m ≤ q * n + n) (h3 : 2 ^ 54 * n ≤ m) (hG : 0 < G) : 2 ^ 52 * (V * Y) ≤ 2 ^ 52 * (X * P) + (X * P + 2 ^ 51 * Y) ∧ 2 ^ 52 * (X * P) ≤ 2 ^ 52 * (V * Y) + (X * P + 2 ^ 51 * Y) := by
  have a1 := Nat.mul_le_mul_right n hVS
  have a2 := Nat.mul_le_mul_right n hSV
  have b1 := Nat.mul_le_mul_right W h1
  have b2 := Nat.mul_le_mul_right W h2
  have b3 := Nat.mul_le_mul_right W h3
  have e1 : V * S * n = V * Y * G := by rw [Nat.mul_assoc, Nat.mul_comm S n, hS, Nat.mul_assoc]
  have e2 : S * n = Y * G := by rw [Nat.mul_comm, hS]
  have e3 : N * n = q * n * W := by rw [hN, Nat.mul_assoc, Nat.mul_comm W n, Nat.mul_assoc]
  simp only [Nat.add_mul, Nat.mul_assoc (2 ^ 53), Nat.mul_assoc (2 ^ 52), Nat.mul_assoc (2 ^ 54), e1, e2, e3, hX] at a1 a2 b1 b2 b3
  have r : ∀ p q : Nat, p * G ≤ q * G → p ≤ q := fun p q h => Nat.le_of_mul_le_mul_right h hG
  constructor
  · apply r
    simp only [Nat.add_mul, Nat.mul_assoc (2 ^ 52), Nat.mul_assoc (2 ^ 51)]
    generalize V * Y * G = a at *
    generalize X * P * G = b at *
    generalize q * n * W = c at *
    generalize n * W = d at *
    generalize Y * G = y at *
    clear r e1 e2 e3 h1 h2 h3 hVS hSV hN hS hX
    omega
  · apply r
    simp only [Nat.add_mul, Nat.mul_assoc (2 ^ 52), Nat.mul_assoc (2 ^ 51)]
    generalize V * Y * G = a at *
    generalize X * P * G = b at *
    generalize q * n * W = c at *
    generalize n * W = d at *
    generalize Y * G = y at *
    clear r e1 e2 e3 h1 h2 h3 hVS hSV hN hS hX
    omega

theorem fdiv_rel {x y : Nat} (hx : Fnt x) (hy : Fnt y) (hy0 : iv y ≠ 0) (hb : 4 * ((iv x).natAbs * 2 ^ U) < (iv y).natAbs * 2 ^ Bt) :
    ∃ z, fdiv x y = some z ∧ Fnt z ∧ 2 ^ 52 * (iv z * iv y - iv x * 2 ^ U) ≤ (iv x).natAbs * 2 ^ U + 2 ^ 51 * (iv y).natAbs ∧ 2 ^ 52 * (iv x * 2 ^ U - iv z * iv y) ≤ (iv x).natAbs * 2 ^ U + 2 ^ 51 * (iv y).natAbs := by
  obtain ⟨s, m, k, h1, hm, _, _, vx⟩ := read_fin hx
  obtain ⟨t, n, l, g1, hn, _, _, vy⟩ := read_fin hy
  have hn0 : n ≠ 0 := by rintro rfl; rw [vy] at hy0; simp at hy0
  have hmx : (iv x).natAbs = m * 2 ^ k := by rw [vx]; exact natAbs_sm _ m k (by cases s <;> simp)
  have hmy : (iv y).natAbs = n * 2 ^ l := by rw [vy]; exact natAbs_sm _ n l (by cases t <;> simp)
  obtain ⟨more, hmore⟩ : ∃ more, more = 54 + n.log2 - m.log2 := ⟨_, rfl⟩
  obtain ⟨q, hq⟩ : ∃ q, q = 2 * ((m <<< more) / n) + ((m <<< more) % n != 0).toNat := ⟨_, rfl⟩
  have hU := U_eq
  -- the quotient's word
  have hz : fdiv x y = some (D.nearest (s ^^ t) q ((k : Int) - 1074 - ((l : Int) - 1074) - more - 1)) := by
    unfold fdiv Format.div
    rw [h1, g1]
    have e : D.fractionBits + 2 = 54 := rfl
    rw [e, hq, hmore]
    simp only [Datum.quotient, hn0, if_false, Option.map_some]
    rfl
  by_cases hm0 : m = 0
  · have hq0 : q = 0 := by rw [hq, hm0]; simp
    have hsp := nearest_spec (s ^^ t) q ((k : Int) - 1074 - ((l : Int) - 1074) - more - 1) (l + more + 1) 0 (by omega) (by rw [hq0]; simp) (Nat.two_pow_pos _)
    refine ⟨_, hz, hsp.1, ?_⟩
    have ez : iv (D.nearest (s ^^ t) q ((k : Int) - 1074 - ((l : Int) - 1074) - more - 1)) = 0 := by
      rw [hsp.2]
      have : rns (l + more + 1) 0 = 0 := by simp [rns, ce]
      rw [this]; simp
    have ex : iv x = 0 := by rw [vx, hm0]; simp
    rw [ez, ex, Int.zero_mul, Int.zero_mul]
    constructor <;> simp <;> omega
  · obtain ⟨q1, q2, q3⟩ := quot_rel m n hm hm0 hn0 more q hmore hq
    have hG := Nat.two_pow_pos (more + 1)
    have hS : n * 2 ^ (l + more + 1) = n * 2 ^ l * 2 ^ (more + 1) := by rw [Nat.mul_assoc, ← Nat.pow_add, Nat.add_assoc]
    have hX : m * 2 ^ (more + 1) * 2 ^ (k + U) = m * 2 ^ k * 2 ^ U * 2 ^ (more + 1) := by
      rw [Nat.mul_assoc, Nat.mul_assoc, Nat.mul_assoc, ← Nat.pow_add, ← Nat.pow_add, ← Nat.pow_add]
      congr 2; omega
    have hNb : q * 2 ^ (k + U) < 2 ^ (Bt + (l + more + 1)) := by
      have a := Nat.mul_le_mul_right (2 ^ (k + U)) q1
      have b := Nat.mul_le_mul_right (2 ^ (k + U)) q3
      rw [hmx, hmy] at hb
      have c := Nat.mul_lt_mul_of_pos_right hb hG
      rw [Nat.mul_assoc 4, ← hX] at c
      have d : n * 2 ^ l * 2 ^ Bt * 2 ^ (more + 1) = n * 2 ^ (Bt + (l + more + 1)) := by
        rw [Nat.mul_assoc, Nat.mul_assoc, ← Nat.pow_add, ← Nat.pow_add]
        congr 2; omega
      rw [d] at c
      rw [Nat.add_mul] at a
      rw [Nat.mul_assoc] at b
      have e : n * (q * 2 ^ (k + U)) < n * 2 ^ (Bt + (l + more + 1)) := by
        rw [← Nat.mul_assoc, Nat.mul_comm n q]
        generalize q * n * 2 ^ (k + U) = A at *
        generalize m * 2 ^ (more + 1) * 2 ^ (k + U) = B at *
        generalize n * 2 ^ (k + U) = C at *
        omega
      exact Nat.lt_of_mul_lt_mul_left e
    have hsp := nearest_spec (s ^^ t) q ((k : Int) - 1074 - ((l : Int) - 1074) - more - 1) (l + more + 1) (q * 2 ^ (k + U)) (by omega) (by congr 2; omega) hNb
    obtain ⟨r1, r2⟩ := rns_rel (l + more + 1) (q * 2 ^ (k + U))
    obtain ⟨f1, f2⟩ := quot_scaled _ (m * 2 ^ k) (n * 2 ^ l) (2 ^ (more + 1)) _ _ (2 ^ (k + U)) q n (m * 2 ^ (more + 1)) (2 ^ U) r1 r2 rfl hS hX q1 q2 q3 hG
    refine ⟨_, hz, hsp.1, ?_⟩
    rw [hsp.2, hmx, hmy, vx, vy]
    generalize rns (l + more + 1) (q * 2 ^ (k + U)) = V at *
    have ek : (2 : Int) ^ k = ((2 ^ k : Nat) : Int) := (Int.natCast_pow _ _).symm
    have el : (2 : Int) ^ l = ((2 ^ l : Nat) : Int) := (Int.natCast_pow _ _).symm
    have eU : (2 : Int) ^ U = ((2 ^ U : Nat) : Int) := (Int.natCast_pow _ _).symm
    rw [ek, el, eU]
    have g1 : ((2 ^ 52 * (V * (n * 2 ^ l)) : Nat) : Int) ≤ ((2 ^ 52 * (m * 2 ^ k * 2 ^ U) + (m * 2 ^ k * 2 ^ U + 2 ^ 51 * (n * 2 ^ l)) : Nat) : Int) := Int.ofNat_le.2 f1
    have g2 : ((2 ^ 52 * (m * 2 ^ k * 2 ^ U) : Nat) : Int) ≤ ((2 ^ 52 * (V * (n * 2 ^ l)) + (m * 2 ^ k * 2 ^ U + 2 ^ 51 * (n * 2 ^ l)) : Nat) : Int) := Int.ofNat_le.2 f2
    clear f1 f2 r1 r2 hsp hz hNb hX hS q1 q2 q3 hb hmx hmy vx vy ek el eU
    generalize 2 ^ k = K at *
    generalize 2 ^ l = L at *
    generalize 2 ^ U = P at *
    have e1 : ((V * (n * L) : Nat) : Int) = (V : Int) * ((n : Int) * L) := by rw [Int.natCast_mul, Int.natCast_mul]
    have e2 : ((m * K * P : Nat) : Int) = (m : Int) * K * P := by rw [Int.natCast_mul, Int.natCast_mul]
    have e3 : ((n * L : Nat) : Int) = (n : Int) * L := Int.natCast_mul _ _
    have k1 : ∀ a b : Int, (∃ g : Int, (g = 1 ∨ g = -1) ∧ a = g * ((V : Int) * ((n : Int) * L)) ∧ b = g * ((m : Int) * K * P)) →
        2 ^ 52 * (a - b) ≤ ((m * K : Nat) : Int) * P + 2 ^ 51 * ((n * L : Nat) : Int) ∧ 2 ^ 52 * (b - a) ≤ ((m * K : Nat) : Int) * P + 2 ^ 51 * ((n * L : Nat) : Int) := by
      rintro a b ⟨g, hg, rfl, rfl⟩
      have e4 : ((m * K : Nat) : Int) * P = ((m * K * P : Nat) : Int) := (Int.natCast_mul _ _).symm
      rw [e4, ← e1, ← e2]
      generalize V * (n * L) = A at *
      generalize m * K * P = B at *
      generalize n * L = C at *
      clear e1 e2 e3 e4
      rcases hg with rfl | rfl
      · constructor <;> omega
      · constructor <;> omega
    have hsg : ∀ (s t : Bool), ∃ g : Int, (g = 1 ∨ g = -1) ∧ (if (s ^^ t) then -1 else 1) * (V : Int) * ((if t then -1 else 1) * (n : Int) * L) = g * ((V : Int) * ((n : Int) * L)) ∧ (if s then -1 else 1) * (m : Int) * K * P = g * ((m : Int) * K * P) := by
      intro s t
      cases s <;> cases t
      · exact ⟨1, .inl rfl, by simp [Int.neg_mul, Int.mul_neg, Int.mul_assoc], by simp [Int.neg_mul, Int.mul_neg, Int.mul_assoc]⟩
      · exact ⟨1, .inl rfl, by simp [Int.neg_mul, Int.mul_neg, Int.mul_assoc], by simp [Int.neg_mul, Int.mul_neg, Int.mul_assoc]⟩
      · exact ⟨-1, .inr rfl, by simp [Int.neg_mul, Int.mul_neg, Int.mul_assoc], by simp [Int.neg_mul, Int.mul_neg, Int.mul_assoc]⟩
      · exact ⟨-1, .inr rfl, by simp [Int.neg_mul, Int.mul_neg, Int.mul_assoc], by simp [Int.neg_mul, Int.mul_neg, Int.mul_assoc]⟩
    exact k1 _ _ (hsg s t)

end Go.Proofs.Ytnpkblidlmkagaa
