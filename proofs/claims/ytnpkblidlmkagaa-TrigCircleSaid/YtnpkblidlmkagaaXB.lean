/- What the program gives, against the exact cosines and sines. -/
import Derived.Test.YtnpkblidlmkagaaG9
import Derived.Test.YtnpkblidlmkagaaV9
import Derived.Test.YtnpkblidlmkagaaXA
set_option linter.unusedSimpArgs false
set_option linter.unusedVariables false
namespace Go.Proofs.Ytnpkblidlmkagaa
open Fl

/-- A number within 2003 times 2^-100 of e. -/
structure Acc (S : Int) (a : Nat × Nat) (e : Rat) : Prop where
  out : ∃ v : Int, Ok a v ∧ -(2003 * (S : Rat)) ≤ 1267650600228229401496703205376 * ((v : Rat) - S * e) ∧ 1267650600228229401496703205376 * ((v : Rat) - S * e) ≤ 2003 * (S : Rat)

theorem Acc.neg {S : Int} {a : Nat × Nat} {e : Rat} (h : Acc S a e) : Acc S (negP a) (-e) := by
  obtain ⟨v, h1, h2, h3⟩ := h.out
  refine ⟨-v, h1.neg, ?_, ?_⟩ <;> rw [Rat.intCast_neg] <;> grind
theorem Ok.plain' {a : Nat × Nat} {v : Int} (h : Ok a v) : Ok (plainF a) v := by
  unfold plainF
  split
  · rename_i h0
    have hr := rnd_rel v
    rw [h.neat, h0] at hr
    have e53 : (2 : Int) ^ 53 = 9007199254740992 := by decide
    rw [e53] at hr
    have hv : v = 0 := by omega
    rw [hv]; exact ok_zero
  · exact h
theorem Acc.plain {S : Int} {a : Nat × Nat} {e : Rat} (h : Acc S a e) : Acc S (plainF a) e := by
  obtain ⟨v, h1, h2, h3⟩ := h.out
  exact ⟨v, h1.plain', h2, h3⟩

theorem rS_zero_c' : rS 0 32 0 - rS 0 32 2 = 1329227995784915872903807060280344576 := by decide +kernel
theorem rS_zero_s' : rS 0 32 1 - rS 0 32 3 = 0 := by decide +kernel

/-- Near, within 2001 times 2^20 units of D. -/
theorem near_law' {S D r n X : Int} (hS : S = ((2 ^ U : Nat) : Int)) (hSD : S = 1329227995784915872903807060280344576 * D) (hD : 0 < D) (r0 : 0 ≤ r) (rn : r ≤ n) (n1 : 1 ≤ n) (n2 : n ≤ 1099511627776) (hX : X = eighth120 * r / n) :
    ∃ vc vs, Ok (nC n r) vc ∧ Ok (nS n r) vs ∧ (vc - (rS X 32 0 - rS X 32 2) * D ≤ 2001 * (1048576 * D) ∧ -(2001 * (1048576 * D)) ≤ vc - (rS X 32 0 - rS X 32 2) * D) ∧ (vs - (rS X 32 1 - rS X 32 3) * D ≤ 2001 * (1048576 * D) ∧ -(2001 * (1048576 * D)) ≤ vs - (rS X 32 1 - rS X 32 3) * D) := by
  by_cases hr : r = 0
  · have h : nearF r n = some ((oneW, 0), (0, 0)) := by unfold nearF; rw [if_pos hr]
    have e1 : nC n r = (oneW, 0) := by unfold nC; rw [h]; rfl
    have e2 : nS n r = (0, 0) := by unfold nS; rw [h]; rfl
    have eX : X = 0 := by rw [hX, hr, Int.mul_zero, Int.zero_ediv]
    have eC : (rS X 32 0 - rS X 32 2) * D = S := by rw [eX, rS_zero_c', hSD]
    have eS : (rS X 32 1 - rS X 32 3) * D = 0 := by rw [eX, rS_zero_s', Int.zero_mul]
    rw [e1, e2, eC, eS]
    exact ⟨S, 0, ok_one hS, ok_zero, by omega, by omega⟩
  · obtain ⟨c, s, vc, vs, h, hc, hs, hv, b1, b2⟩ := near_ok (S := S) hS (show 1 ≤ r by omega) rn (by omega)
    have e1 : nC n r = c := by unfold nC; rw [h]; rfl
    have e2 : nS n r = if r = n then c else s := by unfold nS; rw [h]; rfl
    have hpi : piV = 1043973226625944089706719114415889436 * D + 996 * D := by
      have h1 := iv_q1 hS
      have h2 := iv_q2 hS
      unfold piV
      rw [hSD] at h1 h2
      generalize iv 4605249457297304856 = a at *
      generalize iv 4359948597267291143 = b at *
      clear hSD
      omega
    obtain ⟨k1, k2⟩ := near_doc (X' := X) hSD hD hpi (show 1 ≤ r by omega) rn hv hX
    rw [e1, e2]
    by_cases hrn : r = n
    · rw [if_pos hrn]
      have eX : X = eighth120 := by rw [hX, hrn, Int.mul_ediv_cancel _ (by omega)]
      have hd := doc_eighth
      rw [← eX] at hd
      have e3 : (rS X 32 0 - rS X 32 2) * D = (rS X 32 1 - rS X 32 3) * D + 2 * D := by
        rw [← Int.add_mul]; congr 1; omega
      exact ⟨vc, vc, hc, hc, by omega, by omega⟩
    · rw [if_neg hrn]
      exact ⟨vc, vs, hc, hs, by omega, by omega⟩

theorem cast_bd {v d D : Int} {e : Rat} (hD : 0 < D) (h1 : v - d * D ≤ 2001 * (1048576 * D)) (h2 : -(2001 * (1048576 * D)) ≤ v - d * D)
    (k1 : -2048 ≤ (d : Rat) - 1329227995784915872903807060280344576 * e) (k2 : (d : Rat) - 1329227995784915872903807060280344576 * e ≤ 2048) (S : Int) (hS : S = 1329227995784915872903807060280344576 * D) :
    -(2002 * (S : Rat)) ≤ 1267650600228229401496703205376 * ((v : Rat) - S * e) ∧ 1267650600228229401496703205376 * ((v : Rat) - S * e) ≤ 2002 * (S : Rat) := by
  have eS : (S : Rat) = 1329227995784915872903807060280344576 * (D : Rat) := by rw [hS, Rat.intCast_mul]; rfl
  have q1 : (v : Rat) - (d : Rat) * (D : Rat) ≤ 2001 * (1048576 * (D : Rat)) := by
    have := Rat.intCast_le_intCast.2 h1
    rw [Rat.intCast_sub, Rat.intCast_mul, Rat.intCast_mul, Rat.intCast_mul] at this
    exact this
  have q2 : -(2001 * (1048576 * (D : Rat))) ≤ (v : Rat) - (d : Rat) * (D : Rat) := by
    have := Rat.intCast_le_intCast.2 h2
    rw [Rat.intCast_sub, Rat.intCast_neg, Rat.intCast_mul, Rat.intCast_mul, Rat.intCast_mul] at this
    exact this
  have q0 : (0 : Rat) ≤ (D : Rat) := by
    have := Rat.intCast_le_intCast.2 (show (0 : Int) ≤ D by omega)
    exact this
  rw [eS]
  have m1 := Rat.mul_nonneg q0 (show 0 ≤ 2048 + ((d : Rat) - 1329227995784915872903807060280344576 * e) by grind)
  have m2 := Rat.mul_nonneg q0 (show 0 ≤ 2048 - ((d : Rat) - 1329227995784915872903807060280344576 * e) by grind)
  generalize (v : Rat) = v' at *
  generalize (d : Rat) = d' at *
  generalize (D : Rat) = D' at *
  clear h1 h2 hS eS hD k1 k2
  constructor <;> grind

theorem H_pi : (1329227995784915872903807060280344576 : Rat) * piE = ((1043973226625944089706719114415889436 : Int) : Rat) := by decide +kernel

theorem near_acc {S D r n : Int} (hS : S = ((2 ^ U : Nat) : Int)) (hSD : S = 1329227995784915872903807060280344576 * D) (hD : 0 < D) (r0 : 0 ≤ r) (rn : r ≤ n) (n1 : 1 ≤ n) (n2 : n ≤ 1099511627776) {x : Rat} (hx : (n : Rat) * x = piE * (r : Rat)) :
    (0 ≤ x ∧ x ≤ 4 / 5) ∧
    (∃ v : Int, Ok (nC n r) v ∧ -(2002 * (S : Rat)) ≤ 1267650600228229401496703205376 * ((v : Rat) - S * co x) ∧ 1267650600228229401496703205376 * ((v : Rat) - S * co x) ≤ 2002 * (S : Rat)) ∧
    (∃ v : Int, Ok (nS n r) v ∧ -(2002 * (S : Rat)) ≤ 1267650600228229401496703205376 * ((v : Rat) - S * si x) ∧ 1267650600228229401496703205376 * ((v : Rat) - S * si x) ≤ 2002 * (S : Rat)) := by
  obtain ⟨X, hX⟩ : ∃ X, X = eighth120 * r / n := ⟨_, rfl⟩
  obtain ⟨vc, vs, o1, o2, b1, b2⟩ := near_law' hS hSD hD r0 rn n1 n2 hX
  have ee : eighth120 = 1043973226625944089706719114415889436 := by decide
  rw [ee] at hX
  have hE0 : 0 ≤ 1043973226625944089706719114415889436 * r := Int.mul_nonneg (by decide) r0
  have hE1 : 1043973226625944089706719114415889436 * r ≤ 1043973226625944089706719114415889436 * n := by omega
  have X0 : 0 ≤ X := by rw [hX]; exact Int.ediv_nonneg hE0 (by omega)
  have X1 : X ≤ 1329227995784915872903807060280344576 := by
    rw [hX]
    refine Int.le_trans (Int.ediv_le_ediv (by omega) hE1) ?_
    rw [Int.mul_ediv_cancel _ (by omega)]; decide
  have d1 := Int.mul_ediv_self_le (x := 1043973226625944089706719114415889436 * r) (k := n) (by omega)
  have d2 := Int.lt_mul_ediv_self_add (x := 1043973226625944089706719114415889436 * r) (k := n) (by omega)
  rw [← hX] at d1 d2
  have n0 : (0 : Rat) < (n : Rat) := by
    have : ((1 : Int) : Rat) ≤ (n : Rat) := Rat.intCast_le_intCast.2 n1
    have e : ((1 : Int) : Rat) = 1 := rfl
    grind
  have rr0 : (0 : Rat) ≤ (r : Rat) := Rat.intCast_le_intCast.2 r0
  have rrn : (r : Rat) ≤ (n : Rat) := Rat.intCast_le_intCast.2 rn
  obtain ⟨p0, p1⟩ := piE_bd
  have hHx : 1329227995784915872903807060280344576 * ((n : Rat) * x) = ((1043973226625944089706719114415889436 * r : Int) : Rat) := by
    rw [hx, ← Rat.mul_assoc, H_pi, Rat.intCast_mul]
  have h1 : (X : Rat) ≤ 1329227995784915872903807060280344576 * x := by
    have := Rat.intCast_le_intCast.2 d1
    rw [← hHx, Rat.intCast_mul] at this
    apply Decidable.byContradiction
    intro hc
    have := Rat.mul_pos n0 (show 0 < (X : Rat) - 1329227995784915872903807060280344576 * x by grind)
    grind
  have h2 : 1329227995784915872903807060280344576 * x ≤ (X : Rat) + 1 := by
    have := Rat.intCast_le_intCast.2 (show 1043973226625944089706719114415889436 * r ≤ n * X + n by omega)
    rw [← hHx, Rat.intCast_add, Rat.intCast_mul] at this
    apply Decidable.byContradiction
    intro hc
    have := Rat.mul_pos n0 (show 0 < 1329227995784915872903807060280344576 * x - ((X : Rat) + 1) by grind)
    grind
  have x0 : 0 ≤ x := by
    apply Decidable.byContradiction
    intro hc
    have h3 := Rat.mul_pos n0 (show 0 < -x by grind)
    have h4 := Rat.mul_nonneg p0 rr0
    grind
  have x1 : x ≤ 4 / 5 := by
    apply Decidable.byContradiction
    intro hc
    have h3 := Rat.mul_pos n0 (show 0 < x - 4 / 5 by grind)
    have h4 := Rat.mul_nonneg p0 (show 0 ≤ (n : Rat) - r by grind)
    have h5 := Rat.mul_nonneg (show 0 ≤ 4 / 5 - piE by grind) (Rat.le_of_lt n0)
    grind
  obtain ⟨⟨a1, a2⟩, a3, a4⟩ := doc_exact X0 X1 x0 x1 h1 h2
  exact ⟨⟨x0, x1⟩, ⟨vc, o1, cast_bd hD b1.1 b1.2 a1 a2 S hSD⟩, vs, o2, cast_bd hD b2.1 b2.2 a3 a4 S hSD⟩

/-- The angle of k n-ths of a turn. -/
def ang (k n : Int) : Rat := 8 * piE * ((k % n : Int) : Rat) / (n : Rat)

theorem Acc.of {S v : Int} {a : Nat × Nat} {e e' : Rat} (hS : 0 ≤ (S : Rat)) (ok : Ok a v) (h1 : -(2002 * (S : Rat)) ≤ 1267650600228229401496703205376 * ((v : Rat) - S * e)) (h2 : 1267650600228229401496703205376 * ((v : Rat) - S * e) ≤ 2002 * (S : Rat))
    (g1 : -(128 * eps) ≤ e' - e) (g2 : e' - e ≤ 128 * eps) : Acc S a e' := by
  have he : 1267650600228229401496703205376 * eps = 1 / 1024 := by decide +kernel
  have m1 := Rat.mul_nonneg hS (show 0 ≤ 128 * eps + (e' - e) by grind)
  have m2 := Rat.mul_nonneg hS (show 0 ≤ 128 * eps - (e' - e) by grind)
  have m3 : 1267650600228229401496703205376 * ((S : Rat) * (128 * eps)) = (S : Rat) / 8 := by
    have : 1267650600228229401496703205376 * ((S : Rat) * (128 * eps)) = (S : Rat) * 128 * (1267650600228229401496703205376 * eps) := by grind
    rw [this, he]; grind
  have m1' : 0 ≤ (S : Rat) * (128 * eps) + ((S : Rat) * e' - (S : Rat) * e) := by
    have : (S : Rat) * (128 * eps) + ((S : Rat) * e' - (S : Rat) * e) = (S : Rat) * (128 * eps + (e' - e)) := by grind
    rw [this]; exact m1
  have m2' : 0 ≤ (S : Rat) * (128 * eps) - ((S : Rat) * e' - (S : Rat) * e) := by
    have : (S : Rat) * (128 * eps) - ((S : Rat) * e' - (S : Rat) * e) = (S : Rat) * (128 * eps - (e' - e)) := by grind
    rw [this]; exact m2
  have hv : Ok a v := ok
  clear he g1 g2 m1 m2 ok
  refine ⟨v, hv, ?_, ?_⟩
  · clear hv
    generalize (S : Rat) * (128 * eps) = z at *
    generalize (S : Rat) * e' = y at *
    generalize (S : Rat) * e = w at *
    grind
  · clear hv
    generalize (S : Rat) * (128 * eps) = z at *
    generalize (S : Rat) * e' = y at *
    generalize (S : Rat) * e = w at *
    grind

/-- The octants, exactly. -/
theorem ang_even {k n : Int} {h : Nat} {x : Rat} (n1 : 1 ≤ n) (ho : octO k n = 2 * (h : Int)) (hx : (n : Rat) * x = piE * (octR k n : Rat)) : ang k n = 2 * h * piE + x := by
  have hR : octR k n = if octO k n % 2 = 1 then (octO k n + 1) * n - 8 * (k % n) else 8 * (k % n) - octO k n * n := rfl
  rw [if_neg (by omega), ho] at hR
  have hr : ((octR k n : Int) : Rat) = 8 * ((k % n : Int) : Rat) - 2 * (h : Rat) * (n : Rat) := by
    rw [hR, Rat.intCast_sub, Rat.intCast_mul, Rat.intCast_mul, Rat.intCast_mul]; rfl
  have n0 : (0 : Rat) < (n : Rat) := by
    have : ((1 : Int) : Rat) ≤ (n : Rat) := Rat.intCast_le_intCast.2 n1
    have e : ((1 : Int) : Rat) = 1 := rfl
    grind
  unfold ang
  rw [hr] at hx
  generalize ((k % n : Int) : Rat) = q at *
  generalize (n : Rat) = m at *
  have hm : m ≠ 0 := by grind
  clear hR ho hr n1 n0
  grind
theorem ang_odd {k n : Int} {h : Nat} {x : Rat} (n1 : 1 ≤ n) (ho : octO k n + 1 = 2 * (h : Int)) (hx : (n : Rat) * x = piE * (octR k n : Rat)) : ang k n = 2 * h * piE + -x := by
  have hR : octR k n = if octO k n % 2 = 1 then (octO k n + 1) * n - 8 * (k % n) else 8 * (k % n) - octO k n * n := rfl
  rw [if_pos (by omega), ho] at hR
  have hr : ((octR k n : Int) : Rat) = 2 * (h : Rat) * (n : Rat) - 8 * ((k % n : Int) : Rat) := by
    rw [hR, Rat.intCast_sub, Rat.intCast_mul, Rat.intCast_mul, Rat.intCast_mul]; rfl
  have n0 : (0 : Rat) < (n : Rat) := by
    have : ((1 : Int) : Rat) ≤ (n : Rat) := Rat.intCast_le_intCast.2 n1
    have e : ((1 : Int) : Rat) = 1 := rfl
    grind
  unfold ang
  rw [hr] at hx
  generalize ((k % n : Int) : Rat) = q at *
  generalize (n : Rat) = m at *
  have hm : m ≠ 0 := by grind
  clear hR ho hr n1 n0
  grind

theorem ang_bd (k n : Int) (n1 : 1 ≤ n) : 0 ≤ ang k n ∧ ang k n ≤ 63 / 10 := by
  have n0 : (0 : Rat) < (n : Rat) := by
    have : ((1 : Int) : Rat) ≤ (n : Rat) := Rat.intCast_le_intCast.2 n1
    have e : ((1 : Int) : Rat) = 1 := rfl
    grind
  obtain ⟨p0, p1⟩ := piE_bd
  have q0 : (0 : Rat) ≤ ((k % n : Int) : Rat) := Rat.intCast_le_intCast.2 (Int.emod_nonneg k (by omega))
  have q1 : ((k % n : Int) : Rat) ≤ (n : Rat) := Rat.intCast_le_intCast.2 (Int.le_of_lt (Int.emod_lt_of_pos k (by omega)))
  have e : (n : Rat) * ang k n = 8 * piE * ((k % n : Int) : Rat) := by
    unfold ang
    have hm : (n : Rat) ≠ 0 := by grind
    grind
  generalize ang k n = x at *
  generalize ((k % n : Int) : Rat) = q at *
  generalize (n : Rat) = m at *
  constructor
  · apply Decidable.byContradiction
    intro hc
    have h3 := Rat.mul_pos n0 (show 0 < -x by grind)
    have h4 := Rat.mul_nonneg p0 q0
    grind
  · apply Decidable.byContradiction
    intro hc
    have h3 := Rat.mul_pos n0 (show 0 < x - 63 / 10 by grind)
    have h4 := Rat.mul_nonneg p0 (show 0 ≤ m - q by grind)
    have h5 := Rat.mul_nonneg (show 0 ≤ 7854 / 10000 - piE by grind) (Rat.le_of_lt n0)
    grind

/-- Cosine and sine that the program gives, against the exact ones. -/
theorem ex_acc {S D : Int} (hS : S = ((2 ^ U : Nat) : Int)) (hSD : S = 1329227995784915872903807060280344576 * D) (hD : 0 < D) (k n : Int) (n1 : 1 ≤ n) (n2 : n ≤ 1099511627776) :
    Acc S (exC k n) (co (ang k n)) ∧ Acc S (exS k n) (si (ang k n)) := by
  obtain ⟨r1, r2⟩ := octR_bd k n n1
  obtain ⟨o1, o2, _, _⟩ := octO_spec k n (by omega)
  have n0 : (0 : Rat) < (n : Rat) := by
    have : ((1 : Int) : Rat) ≤ (n : Rat) := Rat.intCast_le_intCast.2 n1
    have e : ((1 : Int) : Rat) = 1 := rfl
    grind
  obtain ⟨x, hx⟩ : ∃ x : Rat, (n : Rat) * x = piE * (octR k n : Rat) := ⟨piE * (octR k n : Rat) / n, by
    have hm : (n : Rat) ≠ 0 := by grind
    grind⟩
  obtain ⟨⟨x0, x1⟩, ⟨vc, oc, c1, c2⟩, vs, os, s1, s2⟩ := near_acc hS hSD hD r1 r2 n1 n2 hx
  have S0 : (0 : Rat) ≤ (S : Rat) := by
    have := Rat.intCast_le_intCast.2 (show (0 : Int) ≤ S by omega)
    exact this
  have hab := ang_bd k n n1
  have kc : ∀ e', -(128 * eps) ≤ e' - co x → e' - co x ≤ 128 * eps → Acc S (nC n (octR k n)) e' := fun e' g1 g2 => Acc.of S0 oc c1 c2 g1 g2
  have ks : ∀ e', -(128 * eps) ≤ e' - si x → e' - si x ≤ 128 * eps → Acc S (nS n (octR k n)) e' := fun e' g1 g2 => Acc.of S0 os s1 s2 g1 g2
  have nc : ∀ e', -(128 * eps) ≤ e' + co x → e' + co x ≤ 128 * eps → Acc S (negP (nC n (octR k n))) e' := fun e' g1 g2 => by
    have := (kc (-e') (by grind) (by grind)).neg
    rwa [show - -e' = e' by grind] at this
  have ns : ∀ e', -(128 * eps) ≤ e' + si x → e' + si x ≤ 128 * eps → Acc S (negP (nS n (octR k n))) e' := fun e' g1 g2 => by
    have := (ks (-e') (by grind) (by grind)).neg
    rwa [show - -e' = e' by grind] at this
  have ev : ∀ h : Nat, octO k n = 2 * (h : Int) → h ≤ 4 → (-(128 * eps) ≤ co (ang k n) - ((sc h).1 * co x - (sc h).2 * si x) ∧ co (ang k n) - ((sc h).1 * co x - (sc h).2 * si x) ≤ 128 * eps) ∧ (-(128 * eps) ≤ si (ang k n) - ((sc h).2 * co x + (sc h).1 * si x) ∧ si (ang k n) - ((sc h).2 * co x + (sc h).1 * si x) ≤ 128 * eps) := by
    intro h ho hh
    have e := ang_even n1 ho hx
    rw [e] at hab ⊢
    exact rot_rest (by grind) x1 h hh hab.2
  have od : ∀ h : Nat, octO k n + 1 = 2 * (h : Int) → h ≤ 4 → (-(128 * eps) ≤ co (ang k n) - ((sc h).1 * co x + (sc h).2 * si x) ∧ co (ang k n) - ((sc h).1 * co x + (sc h).2 * si x) ≤ 128 * eps) ∧ (-(128 * eps) ≤ si (ang k n) - ((sc h).2 * co x - (sc h).1 * si x) ∧ si (ang k n) - ((sc h).2 * co x - (sc h).1 * si x) ≤ 128 * eps) := by
    intro h ho hh
    have e := ang_odd n1 ho hx
    rw [e] at hab ⊢
    have := rot_rest (x := -x) (by grind) (by grind) h hh hab.2
    rw [co_neg, si_neg] at this
    grind
  have w0 : sc 0 = (1, 0) := rfl
  have w1 : sc 1 = (0, 1) := by decide +kernel
  have w2 : sc 2 = (-1, 0) := by decide +kernel
  have w3 : sc 3 = (0, -1) := by decide +kernel
  have w4 : sc 4 = (1, 0) := by decide +kernel
  unfold exC exS
  clear c1 c2 s1 s2 hx hab x0 x1 r1 r2 n0
  generalize co (ang k n) = C at *
  generalize si (ang k n) = Z at *
  generalize co x = y at *
  generalize si x = z at *
  generalize nC n (octR k n) = a at *
  generalize nS n (octR k n) = b at *
  obtain ⟨o, ho⟩ : ∃ o, o = octO k n := ⟨_, rfl⟩
  rw [← ho] at o1 o2 ev od ⊢
  rcases (show o = 0 ∨ o = 1 ∨ o = 2 ∨ o = 3 ∨ o = 4 ∨ o = 5 ∨ o = 6 ∨ o = 7 by omega) with rfl | rfl | rfl | rfl | rfl | rfl | rfl | rfl
  · have h := ev 0 rfl (by omega)
    rw [w0] at h
    exact ⟨(kc _ (by grind) (by grind)).plain, (ks _ (by grind) (by grind)).plain⟩
  · have h := od 1 rfl (by omega)
    rw [w1] at h
    exact ⟨(ks _ (by grind) (by grind)).plain, (kc _ (by grind) (by grind)).plain⟩
  · have h := ev 1 rfl (by omega)
    rw [w1] at h
    exact ⟨(ns _ (by grind) (by grind)).plain, (kc _ (by grind) (by grind)).plain⟩
  · have h := od 2 rfl (by omega)
    rw [w2] at h
    exact ⟨(nc _ (by grind) (by grind)).plain, (ks _ (by grind) (by grind)).plain⟩
  · have h := ev 2 rfl (by omega)
    rw [w2] at h
    exact ⟨(nc _ (by grind) (by grind)).plain, (ns _ (by grind) (by grind)).plain⟩
  · have h := od 3 rfl (by omega)
    rw [w3] at h
    exact ⟨(ns _ (by grind) (by grind)).plain, (nc _ (by grind) (by grind)).plain⟩
  · have h := ev 3 rfl (by omega)
    rw [w3] at h
    exact ⟨(ks _ (by grind) (by grind)).plain, (nc _ (by grind) (by grind)).plain⟩
  · have h := od 4 rfl (by omega)
    rw [w4] at h
    exact ⟨(kc _ (by grind) (by grind)).plain, (ns _ (by grind) (by grind)).plain⟩

/-- The sum of two angles. -/
theorem ang_add (a b n : Int) (n1 : 1 ≤ n) :
    (-(128 * eps) ≤ co (ang a n) * co (ang b n) - si (ang a n) * si (ang b n) - co (ang (a + b) n) ∧ co (ang a n) * co (ang b n) - si (ang a n) * si (ang b n) - co (ang (a + b) n) ≤ 128 * eps) ∧
    (-(128 * eps) ≤ si (ang a n) * co (ang b n) + co (ang a n) * si (ang b n) - si (ang (a + b) n) ∧ si (ang a n) * co (ang b n) + co (ang a n) * si (ang b n) - si (ang (a + b) n) ≤ 128 * eps) := by
  have n0 : (0 : Rat) < (n : Rat) := by
    have : ((1 : Int) : Rat) ≤ (n : Rat) := Rat.intCast_le_intCast.2 n1
    have e : ((1 : Int) : Rat) = 1 := rfl
    grind
  have hm : (n : Rat) ≠ 0 := by grind
  obtain ⟨a0, a1⟩ := ang_bd a n n1
  obtain ⟨b0, b1⟩ := ang_bd b n n1
  obtain ⟨c0, c1⟩ := ang_bd (a + b) n n1
  obtain ⟨e0, e1⟩ := eps_pos
  have h1 := co_add (x := ang a n) (y := ang b n) (by grind) a1 (by grind) b1
  have h2 := si_add (x := ang a n) (y := ang b n) (by grind) a1 (by grind) b1
  have hq : (a + b) % n = a % n + b % n ∨ (a + b) % n + n = a % n + b % n := by
    have p1 := Int.emod_nonneg a (show n ≠ 0 by omega)
    have p2 := Int.emod_lt_of_pos a (show 0 < n by omega)
    have p3 := Int.emod_nonneg b (show n ≠ 0 by omega)
    have p4 := Int.emod_lt_of_pos b (show 0 < n by omega)
    rw [Int.add_emod]
    by_cases hlt : a % n + b % n < n
    · left; exact Int.emod_eq_of_lt (by omega) hlt
    · right
      have : (a % n + b % n) % n = a % n + b % n - n := by
        rw [← Int.sub_emod_right (a % n + b % n) n]
        exact Int.emod_eq_of_lt (by omega) (by omega)
      omega
  rcases hq with hq | hq
  · have e : ang a n + ang b n = ang (a + b) n := by
      unfold ang
      rw [hq, Rat.intCast_add]; grind
    rw [e] at h1 h2
    clear hq e
    refine ⟨⟨?_, ?_⟩, ?_, ?_⟩ <;> grind
  · have e : ang a n + ang b n = 2 * ((4 : Nat) : Rat) * piE + ang (a + b) n := by
      have : ((a % n : Int) : Rat) + ((b % n : Int) : Rat) = (((a + b) % n : Int) : Rat) + (n : Rat) := by
        rw [← Rat.intCast_add, ← Rat.intCast_add, hq]
      have e4 : ((4 : Nat) : Rat) = 4 := rfl
      unfold ang
      rw [e4]
      generalize ((a % n : Int) : Rat) = u at *
      generalize ((b % n : Int) : Rat) = v at *
      generalize (((a + b) % n : Int) : Rat) = w at *
      generalize (n : Rat) = m at *
      clear h1 h2 a0 a1 b0 b1 c0 c1
      grind
    obtain ⟨⟨t1, t2⟩, t3, t4⟩ := quarter_turns 4 (by omega)
    obtain ⟨p0, p1⟩ := piE_bd
    have e4 : ((4 : Nat) : Rat) = 4 := rfl
    have w4 : sc 4 = (1, 0) := by decide +kernel
    have h3 := co_add (x := 2 * ((4 : Nat) : Rat) * piE) (y := ang (a + b) n) (by rw [e4]; grind) (by rw [e4]; grind) (by grind) c1
    have h4 := si_add (x := 2 * ((4 : Nat) : Rat) * piE) (y := ang (a + b) n) (by rw [e4]; grind) (by rw [e4]; grind) (by grind) c1
    have hc := circle (x := ang (a + b) n) (by grind) c1
    rw [w4] at t1 t2 t3 t4
    rw [e] at h1 h2
    generalize co (2 * ((4 : Nat) : Rat) * piE + ang (a + b) n) = C' at *
    generalize si (2 * ((4 : Nat) : Rat) * piE + ang (a + b) n) = S' at *
    generalize co (2 * ((4 : Nat) : Rat) * piE) = u at *
    generalize si (2 * ((4 : Nat) : Rat) * piE) = v at *
    rw [e4] at t1 t2 t3 t4
    have sqb : ∀ t s : Rat, t * t + s * s - 1 ≤ eps → -2 ≤ t ∧ t ≤ 2 := by
      intro t s h
      have hs : 0 ≤ s * s := by
        by_cases h0 : 0 ≤ s
        · exact Rat.mul_nonneg h0 h0
        · have := Rat.mul_nonneg (show 0 ≤ -s by grind) (show 0 ≤ -s by grind)
          grind
      constructor
      · apply Decidable.byContradiction
        intro hc
        have := Rat.mul_pos (show 0 < -2 - t by grind) (show 0 < -2 - t by grind)
        have := Rat.mul_pos (show 0 < -2 - t by grind) (show (0 : Rat) < 2 by grind)
        grind
      · apply Decidable.byContradiction
        intro hc
        have := Rat.mul_pos (show 0 < t - 2 by grind) (show 0 < t - 2 by grind)
        have := Rat.mul_pos (show 0 < t - 2 by grind) (show (0 : Rat) < 2 by grind)
        grind
    have c2 := sqb (co (ang (a + b) n)) (si (ang (a + b) n)) hc.2
    have c3 := sqb (si (ang (a + b) n)) (co (ang (a + b) n)) (by grind)
    have m1 := mbR (A := 20 * eps) (B := 2) (show -(20 * eps) ≤ u - 1 by grind) (by grind) c2.1 c2.2
    have m2 := mbR (A := 20 * eps) (B := 2) (show -(20 * eps) ≤ v - 0 by grind) (by grind) c3.1 c3.2
    have m3 := mbR (A := 20 * eps) (B := 2) (show -(20 * eps) ≤ v - 0 by grind) (by grind) c2.1 c2.2
    have m4 := mbR (A := 20 * eps) (B := 2) (show -(20 * eps) ≤ u - 1 by grind) (by grind) c3.1 c3.2
    clear t1 t2 t3 t4 e4 w4 p0 p1 e hq hm n0 c0 c1 a0 a1 b0 b1 hc c2 c3 sqb e1
    refine ⟨⟨?_, ?_⟩, ?_, ?_⟩ <;> grind

end Go.Proofs.Ytnpkblidlmkagaa
