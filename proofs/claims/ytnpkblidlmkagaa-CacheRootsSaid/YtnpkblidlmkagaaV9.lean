/- Exact and Turn of every part of a turn, as functions of words; turned round they are what the law says. -/
import Derived.Test.YtnpkblidlmkagaaGX
import Derived.Test.YtnpkblidlmkagaaV6
set_option linter.unusedSimpArgs false
set_option linter.unusedVariables false
namespace Go.Proofs.Ytnpkblidlmkagaa
open Go.RowKit Fl

def nC (n r : Int) : Nat × Nat := ((nearF r n).getD default).1
def nS (n r : Int) : Nat × Nat := ((nearF r n).getD default).2

/-- A number that is finite, neat and small. -/
def Sml (a : Nat × Nat) : Prop := ∃ v : Int, Ok a v ∧ (v.natAbs : Int) ≤ 3 * ((2 ^ U : Nat) : Int)

theorem near_fn {r n : Int} (h0 : 0 ≤ r) (rn : r ≤ n) (n1 : 1 ≤ n) (n2 : n ≤ 1099511627776) :
    nearF r n = some (nC n r, nS n r) ∧ Sml (nC n r) ∧ Sml (nS n r) ∧ (r = 0 → nS n r = (0, 0)) ∧ (r = n → nC n r = nS n r) := by
  have hp : (0 : Int) < ((2 ^ U : Nat) : Int) := by have := Nat.two_pow_pos U; omega
  by_cases hr : r = 0
  · have h : nearF r n = some ((oneW, 0), (0, 0)) := by unfold nearF; rw [if_pos hr]
    have e1 : nC n r = (oneW, 0) := by unfold nC; rw [h]; rfl
    have e2 : nS n r = (0, 0) := by unfold nS; rw [h]; rfl
    rw [e1, e2]
    refine ⟨h, ⟨_, ok_one rfl, ?_⟩, ⟨0, ok_zero, ?_⟩, fun _ => rfl, fun h => by omega⟩
    · omega
    · rw [Int.natAbs_zero]; omega
  · obtain ⟨c, s, vc, vs, h, hc, hs, _, b1, b2⟩ := near_ok (S := ((2 ^ U : Nat) : Int)) rfl (show 1 ≤ r by omega) rn n2
    have e1 : nC n r = c := by unfold nC; rw [h]; rfl
    have e2 : nS n r = if r = n then c else s := by unfold nS; rw [h]; rfl
    rw [e1, e2]
    refine ⟨h, ⟨vc, hc, b1⟩, ?_, fun h => absurd h hr, fun hrn => by rw [if_pos hrn]⟩
    split
    · exact ⟨vc, hc, b1⟩
    · exact ⟨vs, hs, b2⟩

theorem Sml.plain {a : Nat × Nat} (h : Sml a) : Sml (plainF a) := by
  obtain ⟨v, ok, b⟩ := h
  unfold plainF
  split
  · rename_i h0
    have hr := rnd_rel v
    rw [ok.neat, h0] at hr
    have e53 : (2 : Int) ^ 53 = 9007199254740992 := by decide
    rw [e53] at hr
    have hv : v = 0 := by omega
    exact ⟨0, ok_zero, by rw [hv] at b; exact b⟩
  · exact ⟨v, ok, b⟩
theorem Sml.neg {a : Nat × Nat} (h : Sml a) : Sml (negP a) := by
  obtain ⟨v, ok, b⟩ := h
  exact ⟨-v, ok.neg, by rw [Int.natAbs_neg]; exact b⟩
theorem Sml.f1 {a : Nat × Nat} (h : Sml a) : Fnt a.1 := by obtain ⟨v, ok, _⟩ := h; exact ok.f1
theorem Sml.f2 {a : Nat × Nat} (h : Sml a) : Fnt a.2 := by obtain ⟨v, ok, _⟩ := h; exact ok.f2

/-- The float of a small number is its first part. -/
theorem Sml.float {a : Nat × Nat} (h : Sml a) : ∃ x, fadd a.1 a.2 = some x ∧ Fnt x ∧ iv x = iv a.1 := by
  obtain ⟨v, ok, b⟩ := h
  obtain ⟨_, s2⟩ := S_big (S := ((2 ^ U : Nat) : Int)) rfl
  obtain ⟨x, h1, fx, vx⟩ := fadd_spec ok.f1 ok.f2 (by rw [ok.v]; have := Nat.two_pow_pos U; omega)
  exact ⟨x, h1, fx, by rw [vx, ok.v, ok.neat]⟩

def exC (k n : Int) : Nat × Nat := turnC (octO k n) (nC n (octR k n)) (nS n (octR k n))
def exS (k n : Int) : Nat × Nat := turnS (octO k n) (nC n (octR k n)) (nS n (octR k n))

theorem octR_bd (k n : Int) (n1 : 1 ≤ n) : 0 ≤ octR k n ∧ octR k n ≤ n := by
  obtain ⟨s1, s2, s3, s4⟩ := octO_spec k n (by omega)
  unfold octR
  rw [Int.add_mul, Int.one_mul]
  split <;> omega

theorem ex_sml {k n : Int} (n1 : 1 ≤ n) (n2 : n ≤ 1099511627776) : Sml (exC k n) ∧ Sml (exS k n) := by
  obtain ⟨r1, r2⟩ := octR_bd k n n1
  obtain ⟨_, hc, hs, _⟩ := near_fn r1 r2 n1 n2
  unfold exC exS turnC turnS
  constructor
  · apply Sml.plain
    split
    · apply Sml.neg; split <;> assumption
    · split <;> assumption
  · apply Sml.plain
    split
    · apply Sml.neg; split <;> assumption
    · split <;> assumption

theorem exact_fn (k n : Int) (w : World) (n1 : 1 ≤ n) (n2 : n ≤ 1099511627776) :
    Calls Try.prog 46 #[.int .i64 k, .int .i64 n] w fun z w' => z = .returned (.tuple #[num (exC k n).1 (exC k n).2, num (exS k n).1 (exS k n).2]) ∧ Below w.heap.size w w' := by
  obtain ⟨r1, r2⟩ := octR_bd k n n1
  obtain ⟨h, hc, hs, _⟩ := near_fn r1 r2 n1 n2
  exact exact_any k n _ _ _ _ w n1 n2 h hc.f1 hs.f1

def tuC (k n : Int) : Nat := (fadd (exC k n).1 (exC k n).2).getD 0
def tuS (k n : Int) : Nat := (fadd (exS k n).1 (exS k n).2).getD 0

theorem turn_fn (k n : Int) (n1 : 1 ≤ n) (n2 : n ≤ 1099511627776) :
    (∀ w, Calls Try.prog 47 #[.int .i64 k, .int .i64 n] w fun z w' => z = .returned (.tuple #[.float .f64 (tuC k n), .float .f64 (tuS k n)]) ∧ Below w.heap.size w w') ∧
      Fnt (tuC k n) ∧ Fnt (tuS k n) ∧ iv (tuC k n) = iv (exC k n).1 ∧ iv (tuS k n) = iv (exS k n).1 := by
  obtain ⟨hc, hs⟩ := ex_sml (k := k) n1 n2
  obtain ⟨x, h1, fx, vx⟩ := hc.float
  obtain ⟨y, h2, fy, vy⟩ := hs.float
  have e1 : tuC k n = x := by unfold tuC; rw [h1]; rfl
  have e2 : tuS k n = y := by unfold tuS; rw [h2]; rfl
  rw [e1, e2]
  exact ⟨fun w => turn_of k n _ _ _ _ x y w (fun w => exact_fn k n w n1 n2) h1 h2, fx, fy, vx, vy⟩

/-- The octant, of what it must be. -/
theorem oct_of {k n x o m : Int} (hn : 0 < n) (hk : k = x + n * m) (x0 : 0 ≤ x) (x1 : x < n) (h1 : o * n ≤ 8 * x) (h2 : 8 * x < o * n + n) :
    octO k n = o ∧ octR k n = if o % 2 = 1 then (o + 1) * n - 8 * x else 8 * x - o * n := by
  have e : k % n = x := by rw [hk, Int.add_mul_emod_self_left, Int.emod_eq_of_lt x0 x1]
  have ho : octO k n = o := by
    unfold octO
    rw [e]
    have a := (Int.le_ediv_iff_mul_le hn).2 h1
    have b := (Int.ediv_lt_iff_lt_mul (b := o + 1) hn).2 (by rw [Int.add_mul, Int.one_mul]; exact h2)
    omega
  refine ⟨ho, ?_⟩
  unfold octR
  rw [ho, e]

theorem plain_neg {a : Nat × Nat} (f1 : Fnt a.1) (f2 : Fnt a.2) : iv (plainF (negP a)).1 = - iv (plainF a).1 ∧ iv (plainF (negP a)).2 = - iv (plainF a).2 := by
  obtain ⟨_, v1⟩ := fneg_spec f1
  obtain ⟨_, v2⟩ := fneg_spec f2
  unfold plainF negP
  by_cases h : iv a.1 = 0
  · rw [if_pos (by show iv (fneg a.1) = 0; omega), if_pos h]
    show iv 0 = - iv 0 ∧ iv 0 = - iv 0
    rw [iv_zero]; exact ⟨rfl, rfl⟩
  · rw [if_neg (by show ¬ iv (fneg a.1) = 0; omega), if_neg h]
    exact ⟨v1, v2⟩

theorem ex_period (k n : Int) (n1 : 1 ≤ n) : exC (k + n) n = exC k n ∧ exS (k + n) n = exS k n := by
  have e : (k + n) % n = k % n := by
    have := Int.add_mul_emod_self_left k n 1
    rwa [Int.mul_one] at this
  have o : octO (k + n) n = octO k n := by unfold octO; rw [e]
  have r : octR (k + n) n = octR k n := by unfold octR; rw [o, e]
  unfold exC exS
  rw [o, r]
  exact ⟨rfl, rfl⟩

/-- What another octant with the same rest gives. -/
structure Turns (a b : Nat × Nat) : Prop where
  h1 : iv a.1 = - iv b.1
  h2 : iv a.2 = - iv b.2

theorem Turns.symm {a b : Nat × Nat} (h : Turns a b) : Turns b a := ⟨by have := h.h1; omega, by have := h.h2; omega⟩

theorem turns_neg {a : Nat × Nat} (h : Sml a) : Turns (plainF (negP a)) (plainF a) := by
  obtain ⟨h1, h2⟩ := plain_neg h.f1 h.f2
  exact ⟨h1, h2⟩

theorem turns_zero : Turns (plainF (0, 0)) (plainF (0, 0)) := by
  have e : plainF (0, 0) = (0, 0) := by unfold plainF; rw [if_pos iv_zero]
  rw [e]
  exact ⟨by show iv 0 = - iv 0; rw [iv_zero]; rfl, by show iv 0 = - iv 0; rw [iv_zero]; rfl⟩

/-- Of octants o and 7 - o. -/
theorem seven (o : Int) (c s : Nat × Nat) (hc : Sml c) (hs : Sml s) (h0 : 0 ≤ o) (h7 : o ≤ 7) : turnC (7 - o) c s = turnC o c s ∧ Turns (turnS (7 - o) c s) (turnS o c s) := by
  rcases (show o = 0 ∨ o = 1 ∨ o = 2 ∨ o = 3 ∨ o = 4 ∨ o = 5 ∨ o = 6 ∨ o = 7 by omega) with rfl | rfl | rfl | rfl | rfl | rfl | rfl | rfl
  · exact ⟨rfl, turns_neg hs⟩
  · exact ⟨rfl, turns_neg hc⟩
  · exact ⟨rfl, turns_neg hc⟩
  · exact ⟨rfl, turns_neg hs⟩
  · exact ⟨rfl, (turns_neg hs).symm⟩
  · exact ⟨rfl, (turns_neg hc).symm⟩
  · exact ⟨rfl, (turns_neg hc).symm⟩
  · exact ⟨rfl, (turns_neg hs).symm⟩

/-- Of octants o and o + 2. -/
theorem two (o : Int) (c s : Nat × Nat) (hc : Sml c) (hs : Sml s) (h0 : 0 ≤ o) (h7 : o ≤ 7) :
    Turns (turnC (if o < 6 then o + 2 else o - 6) c s) (turnS o c s) ∧ turnS (if o < 6 then o + 2 else o - 6) c s = turnC o c s := by
  rcases (show o = 0 ∨ o = 1 ∨ o = 2 ∨ o = 3 ∨ o = 4 ∨ o = 5 ∨ o = 6 ∨ o = 7 by omega) with rfl | rfl | rfl | rfl | rfl | rfl | rfl | rfl
  · exact ⟨turns_neg hs, rfl⟩
  · exact ⟨turns_neg hc, rfl⟩
  · exact ⟨turns_neg hc, rfl⟩
  · exact ⟨turns_neg hs, rfl⟩
  · exact ⟨(turns_neg hs).symm, rfl⟩
  · exact ⟨(turns_neg hc).symm, rfl⟩
  · exact ⟨(turns_neg hc).symm, rfl⟩
  · exact ⟨(turns_neg hs).symm, rfl⟩

theorem ex_neg (k n : Int) (n1 : 1 ≤ n) (n2 : n ≤ 1099511627776) : exC (-k) n = exC k n ∧ Turns (exS (-k) n) (exS k n) := by
  obtain ⟨s1, s2, s3, s4⟩ := octO_spec k n (by omega)
  obtain ⟨r1, r2⟩ := octR_bd k n n1
  obtain ⟨_, hc, hs, hz, he⟩ := near_fn r1 r2 n1 n2
  have q0 := Int.emod_nonneg k (show n ≠ 0 by omega)
  have q1 := Int.emod_lt_of_pos k (show 0 < n by omega)
  have hd := Int.mul_ediv_add_emod k n
  obtain ⟨d, hdd⟩ : ∃ d, d = k / n := ⟨_, rfl⟩
  rw [← hdd] at hd
  have hR : octR k n = if octO k n % 2 = 1 then (octO k n + 1) * n - 8 * (k % n) else 8 * (k % n) - octO k n * n := rfl
  obtain ⟨q, hq⟩ : ∃ q, q = k % n := ⟨_, rfl⟩
  obtain ⟨o, ho⟩ : ∃ o, o = octO k n := ⟨_, rfl⟩
  rw [← hq] at q0 q1 hd hR s3 s4
  rw [← ho] at s1 s2 s3 s4 hR
  by_cases hq0 : q = 0
  · -- no part of a turn
    have ho0 : o = 0 := by
      apply Decidable.byContradiction
      intro hc
      have : 1 * n ≤ o * n := Int.mul_le_mul_of_nonneg_right (by omega) (by omega)
      omega
    obtain ⟨e1, e2⟩ := oct_of (k := -k) (n := n) (x := 0) (o := 0) (m := -d) (by omega) (by rw [Int.mul_neg]; omega) (by omega) (by omega) (by omega) (by omega)
    have eR : octR k n = 0 := by rw [hR, ho0, hq0]; simp
    have eR' : octR (-k) n = 0 := by rw [e2]; simp
    unfold exC exS
    rw [e1, eR', ← ho, ho0, eR]
    rw [eR] at hz
    rw [hz rfl]
    exact ⟨rfl, turns_zero⟩
  · by_cases ht : 8 * q = o * n
    · -- on an axis, or half between two
      have ho1 : 1 ≤ o := by
        apply Decidable.byContradiction
        intro hc
        have : o = 0 := by omega
        rw [this] at ht
        omega
      have e8 : (8 - o) * n = 8 * n - o * n := by rw [Int.sub_mul]
      obtain ⟨e1, e2⟩ := oct_of (k := -k) (n := n) (x := n - q) (o := 8 - o) (m := -d - 1) (by omega) (by rw [Int.mul_sub, Int.mul_neg, Int.mul_one]; omega) (by omega) (by omega) (by omega) (by omega)
      have e9 : (8 - o + 1) * n = 9 * n - o * n := by rw [show 8 - o + 1 = 9 - o by omega, Int.sub_mul]
      have e10 : (o + 1) * n = o * n + n := by rw [Int.add_mul, Int.one_mul]
      rw [e8, e9] at e2
      rw [e10] at hR
      by_cases hodd : o % 2 = 1
      · have eR : octR k n = n := by rw [hR, if_pos hodd]; omega
        have eR' : octR (-k) n = n := by rw [e2, if_pos (by omega)]; omega
        have hcs := he eR
        unfold exC exS
        rw [e1, eR', ← ho, eR]
        rw [eR] at hcs hc hs
        rw [hcs]
        rw [hcs] at hc
        rcases (show o = 1 ∨ o = 3 ∨ o = 5 ∨ o = 7 by omega) with h | h | h | h
        · rw [h]; exact ⟨rfl, turns_neg hs⟩
        · rw [h]; exact ⟨rfl, turns_neg hs⟩
        · rw [h]; exact ⟨rfl, (turns_neg hs).symm⟩
        · rw [h]; exact ⟨rfl, (turns_neg hs).symm⟩
      · have eR : octR k n = 0 := by rw [hR, if_neg hodd]; omega
        have eR' : octR (-k) n = 0 := by rw [e2, if_neg (by omega)]; omega
        have hss := hz eR
        unfold exC exS
        rw [e1, eR', ← ho, eR]
        rw [eR] at hss hc hs
        rw [hss]
        have z1 : plainF (negP (0, 0)) = plainF (0, 0) := by
          have f0 := (fneg_spec fnt_zero).2
          unfold plainF negP
          rw [if_pos (by show iv (fneg 0) = 0; rw [f0, iv_zero]; rfl), if_pos iv_zero]
        rcases (show o = 2 ∨ o = 4 ∨ o = 6 by omega) with h | h | h
        · rw [h]; exact ⟨z1.symm, turns_neg hc⟩
        · rw [h]; exact ⟨rfl, by show Turns (plainF (negP (0, 0))) (plainF (negP (0, 0))); rw [z1]; exact turns_zero⟩
        · rw [h]; exact ⟨z1, (turns_neg hc).symm⟩
    · -- within an octant
      have e7 : (7 - o) * n = 7 * n - o * n := by rw [Int.sub_mul]
      obtain ⟨e1, e2⟩ := oct_of (k := -k) (n := n) (x := n - q) (o := 7 - o) (m := -d - 1) (by omega) (by rw [Int.mul_sub, Int.mul_neg, Int.mul_one]; omega) (by omega) (by omega) (by omega) (by omega)
      have e9 : (7 - o + 1) * n = 8 * n - o * n := by rw [show 7 - o + 1 = 8 - o by omega, Int.sub_mul]
      have e10 : (o + 1) * n = o * n + n := by rw [Int.add_mul, Int.one_mul]
      rw [e7, e9] at e2
      rw [e10] at hR
      have eR : octR (-k) n = octR k n := by
        rw [e2, hR]
        by_cases hodd : o % 2 = 1
        · rw [if_neg (by omega), if_pos hodd]; omega
        · rw [if_pos (by omega), if_neg hodd]; omega
      unfold exC exS
      rw [e1, eR, ← ho]
      exact seven o _ _ hc hs s1 s2

theorem ex_quarter (k n : Int) (n1 : 1 ≤ n) (n2 : n ≤ 1099511627776) (h4 : n % 4 = 0) : Turns (exC (k + n / 4) n) (exS k n) ∧ exS (k + n / 4) n = exC k n := by
  obtain ⟨s1, s2, s3, s4⟩ := octO_spec k n (by omega)
  obtain ⟨r1, r2⟩ := octR_bd k n n1
  obtain ⟨_, hc, hs, hz, he⟩ := near_fn r1 r2 n1 n2
  have q0 := Int.emod_nonneg k (show n ≠ 0 by omega)
  have q1 := Int.emod_lt_of_pos k (show 0 < n by omega)
  have hd := Int.mul_ediv_add_emod k n
  obtain ⟨d, hdd⟩ : ∃ d, d = k / n := ⟨_, rfl⟩
  rw [← hdd] at hd
  have hR : octR k n = if octO k n % 2 = 1 then (octO k n + 1) * n - 8 * (k % n) else 8 * (k % n) - octO k n * n := rfl
  obtain ⟨q, hq⟩ : ∃ q, q = k % n := ⟨_, rfl⟩
  obtain ⟨o, ho⟩ : ∃ o, o = octO k n := ⟨_, rfl⟩
  obtain ⟨p, hp⟩ : ∃ p, p = n / 4 := ⟨_, rfl⟩
  have hnp : n = 4 * p := by omega
  rw [← hq] at q0 q1 hd hR s3 s4
  rw [← ho] at s1 s2 s3 s4 hR
  rw [← hp]
  have e10 : (o + 1) * n = o * n + n := by rw [Int.add_mul, Int.one_mul]
  rw [e10] at hR
  by_cases h6 : o < 6
  · have h6n : o * n ≤ 5 * n := Int.mul_le_mul_of_nonneg_right (by omega) (by omega)
    have e2n : (o + 2) * n = o * n + 2 * n := by rw [Int.add_mul]
    have e3n : (o + 2 + 1) * n = o * n + 3 * n := by rw [show o + 2 + 1 = o + 3 by omega, Int.add_mul]
    obtain ⟨e1, e2⟩ := oct_of (k := k + p) (n := n) (x := q + p) (o := o + 2) (m := d) (by omega) (by omega) (by omega) (by omega) (by omega) (by omega)
    rw [e2n, e3n] at e2
    have eR : octR (k + p) n = octR k n := by
      rw [e2, hR]
      by_cases hodd : o % 2 = 1
      · rw [if_pos (by omega), if_pos hodd]; omega
      · rw [if_neg (by omega), if_neg hodd]; omega
    have := two o _ _ hc hs s1 s2
    rw [if_pos h6] at this
    unfold exC exS
    rw [e1, eR, ← ho]
    exact this
  · have h6n : 6 * n ≤ o * n := Int.mul_le_mul_of_nonneg_right (by omega) (by omega)
    have e2n : (o - 6) * n = o * n - 6 * n := by rw [Int.sub_mul]
    have e3n : (o - 6 + 1) * n = o * n - 5 * n := by rw [show o - 6 + 1 = o - 5 by omega, Int.sub_mul]
    obtain ⟨e1, e2⟩ := oct_of (k := k + p) (n := n) (x := q + p - n) (o := o - 6) (m := d + 1) (by omega) (by rw [Int.mul_add, Int.mul_one]; omega) (by omega) (by omega) (by omega) (by omega)
    rw [e2n, e3n] at e2
    have eR : octR (k + p) n = octR k n := by
      rw [e2, hR]
      by_cases hodd : o % 2 = 1
      · rw [if_pos (by omega), if_pos hodd]; omega
      · rw [if_neg (by omega), if_neg hodd]; omega
    have := two o _ _ hc hs s1 s2
    rw [if_neg h6] at this
    unfold exC exS
    rw [e1, eR, ← ho]
    exact this

end Go.Proofs.Ytnpkblidlmkagaa
