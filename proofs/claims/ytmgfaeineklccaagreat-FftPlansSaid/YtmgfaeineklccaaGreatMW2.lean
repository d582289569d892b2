/- The contract of prime.Factor. -/
import Derived.Test.YtmgfaeineklccaaGreatMW1
set_option linter.unusedSimpArgs false
set_option linter.unusedVariables false
namespace Go.Proofs.YtmgfaeineklccaaGreat
open Go.RowKit Go.Lib

theorem stripL_step (f n p : Nat) : stripL (f + 1) n p = if n % p = 0 then stripL f (n / p) p else n := by
  show (bif _ then _ else _) = _
  rw [bif_eq]
theorem facL_step (f n p : Nat) : facL (f + 1) n p = if n ≤ 1 then [] else if p * p ≤ n then (if n % p = 0 then p :: facL f (stripL 64 n p) (p + 1) else facL f n (p + 1)) else [n] := by
  show (bif _ then _ else (bif _ then (bif _ then _ else _) else _)) = _
  rw [bif_le, bif_le, bif_eq]
theorem facL_one (f p : Nat) : facL f 1 p = [] := by
  rcases f with _ | f
  · rfl
  · rw [facL_step, if_pos (by omega)]

/-- What is known in a round: what was found, and what the rest will find. -/
structure FacS (N : Nat) (n p : Nat) (L : List (Nat × Nat)) : Prop where
  ex : ∃ f, N + 2 ≤ p + f ∧ L.map Prod.fst ++ facL f n p = facL N N 2
  le : n ≤ N
  n1 : 1 ≤ n
  p2 : 2 ≤ p
  sq : n = 1 ∨ (p - 1) * (p - 1) ≤ N
  big : 2 ^ L.length * n ≤ N

theorem stripL_end (f m p : Nat) (h : m % p ≠ 0) : stripL f m p = m := by
  rcases f with _ | f
  · rfl
  · rw [stripL_step, if_neg h]
theorem FacS.last {N n p : Nat} {L : List (Nat × Nat)} (h : FacS N n p L) (hn : 2 ≤ n) (hp : n < p * p) (e : Nat) : FacS N 1 (n + 1) (L ++ [(n, e)]) := by
  obtain ⟨f, hf, he⟩ := h.ex
  refine ⟨⟨N + 2, by omega, ?_⟩, by have := h.le; omega, by omega, by omega, .inl rfl, ?_⟩
  · rw [← he, facL_one]
    have hle := h.le
    rcases h.sq with hs | hs
    · omega
    · have hf0 : f ≠ 0 := by
        rintro rfl
        have : p ≤ (p - 1) * (p - 1) + 1 := by
          have : (p - 1) * 1 ≤ (p - 1) * (p - 1) := Nat.mul_le_mul (by omega) (by have := h.p2; omega)
          omega
        omega
      obtain ⟨f, rfl⟩ : ∃ g, f = g + 1 := ⟨f - 1, by omega⟩
      rw [facL_step, if_neg (by omega), if_neg (by omega)]
      simp
  · have := h.big
    rw [List.length_append]
    show 2 ^ (L.length + 1) * 1 ≤ N
    have h2 : 2 ^ L.length * 2 ≤ 2 ^ L.length * n := Nat.mul_le_mul (Nat.le_refl _) hn
    rw [Nat.pow_succ]; omega
theorem FacS.fuel {N n p : Nat} {L : List (Nat × Nat)} (h : FacS N n p L) (hn : 2 ≤ n) (hp : p * p ≤ n) : ∃ f, N + 2 ≤ p + (f + 1) ∧ L.map Prod.fst ++ facL (f + 1) n p = facL N N 2 := by
  obtain ⟨f, hf, he⟩ := h.ex
  have hp2 := h.p2
  have hle := h.le
  have : p * 2 ≤ p * p := Nat.mul_le_mul (Nat.le_refl _) hp2
  exact ⟨f - 1, by omega, by rw [show f - 1 + 1 = f from by omega]; exact he⟩
/-- Within a round: what is left of n. -/
structure DivS (n q m e : Nat) : Prop where
  ex : ∃ f, e + f ≤ 64 ∧ m < 2 ^ f ∧ stripL f m q = stripL 64 n q
  m1 : 1 ≤ m
  le : m ≤ n
  how : (e = 0 ∧ m = n) ∨ (0 < e ∧ n % q = 0)
theorem DivS.step {n q m e : Nat} (h : DivS n q m e) (hq : 2 ≤ q) (hd : m % q = 0) : DivS n q (m / q) (e + 1) := by
  obtain ⟨f, hf, hm, hs⟩ := h.ex
  have h1 := h.m1
  have hf0 : f ≠ 0 := by rintro rfl; omega
  obtain ⟨f, rfl⟩ : ∃ g, f = g + 1 := ⟨f - 1, by omega⟩
  rw [stripL_step, if_pos hd] at hs
  have h4 : m / q ≤ m / 2 := Nat.div_le_div_left hq (by omega)
  have h3 : 1 ≤ m / q := Nat.div_pos (Nat.le_of_dvd (by omega) (Nat.dvd_of_mod_eq_zero hd)) (by omega)
  refine ⟨⟨f, by omega, by rw [Nat.pow_succ] at hm; omega, hs⟩, h3, by have := h.le; omega, .inr ⟨by omega, ?_⟩⟩
  rcases h.how with ⟨_, rfl⟩ | ⟨_, h⟩
  · exact hd
  · exact h
theorem DivS.done {n q m e : Nat} (h : DivS n q m e) (hd : m % q ≠ 0) : m = stripL 64 n q := by
  obtain ⟨f, hf, hm, hs⟩ := h.ex
  rw [← hs, stripL_end _ _ _ hd]

end Go.Proofs.YtmgfaeineklccaaGreat
/- The contracts of prime.order and prime.Root. -/
set_option linter.unusedSimpArgs false
set_option linter.unusedVariables false
namespace Go.Proofs.YtmgfaeineklccaaGreat
open Go.RowKit Go.Lib

end Go.Proofs.YtmgfaeineklccaaGreat
/- The contract of prime.Root. -/
set_option linter.unusedSimpArgs false
set_option linter.unusedVariables false
namespace Go.Proofs.YtmgfaeineklccaaGreat
open Go.RowKit Go.Lib

/-- A prime whose root the program finds. -/
structure Rooted (p : Nat) : Prop where
  p3 : 3 ≤ p
  le : p ≤ 2147483648
  is : isB p = true
  ord : ordB (rootB p) p (p - 1) = p - 1
  one : pmod (rootB p) (p - 1) p = 1
  small : rootB p ≤ 199

end Go.Proofs.YtmgfaeineklccaaGreat
/- The contracts of chirp: squares, powers, the padded size. -/
set_option linter.unusedSimpArgs false
set_option linter.unusedVariables false
namespace Go.Proofs.YtmgfaeineklccaaGreat
open Go.RowKit Go.Lib

/-- The padded size. -/
def padL : Nat → Nat → Nat → Nat
  | 0, m, _ => m
  | f + 1, m, n => if m < 2 * n - 1 then padL f (2 * m) n else m
def padF (n : Nat) : Nat := padL 20 1 n
theorem padL_ge (f : Nat) : ∀ m n, 1 ≤ m → 2 * n - 1 ≤ m * 2 ^ f → 2 * n - 1 ≤ padL f m n ∧ padL f m n < max (m + 1) (4 * n) ∧ ∃ k, padL f m n = m * 2 ^ k := by
  induction f with
  | zero => intro m n h h2; exact ⟨by show 2 * n - 1 ≤ m; rw [Nat.pow_zero, Nat.mul_one] at h2; exact h2, by show m < _; omega, 0, by show m = m * 1; omega⟩
  | succ f ih =>
    intro m n h h2
    show 2 * n - 1 ≤ (if m < 2 * n - 1 then padL f (2 * m) n else m) ∧ (if m < 2 * n - 1 then padL f (2 * m) n else m) < _ ∧ ∃ k, (if m < 2 * n - 1 then padL f (2 * m) n else m) = _
    by_cases e : m < 2 * n - 1
    · rw [if_pos e]
      obtain ⟨a, b, k, hk⟩ := ih (2 * m) n (by omega) (by rw [Nat.pow_succ, Nat.mul_comm (2 ^ f), ← Nat.mul_assoc, Nat.mul_comm m 2] at h2; exact h2)
      refine ⟨a, by omega, k + 1, by rw [hk, Nat.pow_succ, Nat.mul_comm 2 m, Nat.mul_assoc, Nat.mul_comm 2]⟩
    · rw [if_neg e]
      exact ⟨by omega, by omega, 0, by omega⟩
theorem padF_spec (n : Nat) (h1 : 1 ≤ n) (h2 : n ≤ 16384) : 2 * n - 1 ≤ padF n ∧ padF n < 4 * n ∧ (∃ k, padF n = 2 ^ k) ∧ 1 ≤ padF n ∧ padF n ≤ 32768 := by
  obtain ⟨a, b, k, hk⟩ := padL_ge 20 1 n (by omega) (by omega)
  have hk' : padF n = 2 ^ k := by unfold padF; rw [hk, Nat.one_mul]
  refine ⟨a, by unfold padF; omega, ⟨k, hk'⟩, by unfold padF; omega, ?_⟩
  have hb : padF n < 65536 := by unfold padF; omega
  apply Classical.byContradiction
  intro hh
  have h16 : ¬ k ≤ 15 := fun h => by
    have : 2 ^ k ≤ 2 ^ 15 := Nat.pow_le_pow_right (by omega) h
    omega
  have : 2 ^ 16 ≤ 2 ^ k := Nat.pow_le_pow_right (by omega) (by omega)
  omega

set_option maxRecDepth 100000 in
theorem Padded_no (n : Int) (h : n < 1 ∨ 16384 < n) (w : World) :
    Calls Tryz.prog 185 #[.int .i64 n] w fun z w' => z = .returned (.tuple #[.int .i64 0, .int .i64 3]) ∧ w = w' := by
  by_cases h1 : n < 1
  · clear h
    go_enter Tryz.func185, Tryz.ntmps185
    go_wp2
    go_ret2
    exact ⟨rfl, rfl⟩
  · have h2 : 16384 < n := by omega
    clear h
    go_enter Tryz.func185, Tryz.ntmps185
    go_wp2
    go_ret2
    exact ⟨rfl, rfl⟩

set_option maxRecDepth 100000 in
theorem Padded_ok (n : Nat) (h1 : 1 ≤ n) (h2 : n ≤ 16384) (w : World) :
    Calls Tryz.prog 185 #[.int .i64 n] w fun z w' => z = .returned (.tuple #[.int .i64 (padF n : Nat), .int .i64 0]) ∧ w = w' := by
  have h0 : ¬ (n : Int) < 1 := by omega
  have h3 : (n : Int) ≤ 16384 := by omega
  have hP := padF_spec n h1 h2
  have HR : Hid (padL 20 1 n = padF n) := Lib.hid rfl
  have hR := hP.2.2.2.2
  have hG := hP.1
  generalize padF n = P at *
  clear hP
  go_enter Tryz.func185, Tryz.ntmps185
  go_wp2
  go_loop [4] (fun vm => ∃ f m : Nat, vm = .int .i64 m ∧ 1 ≤ m ∧ m ≤ 65536 ∧ Hid (padL f m n = P)) (fun vm => 65536 - (intOf vm).toNat)
  case atStart => exact ⟨20, 1, rfl, by omega, by omega, HR⟩
  case round =>
    clear HR
    obtain ⟨f, m, rfl, hm, hm2, hp⟩ := hrel
    by_cases hlt : m < 2 * n - 1
    · have hlti : (m : Int) < 2 * (n : Int) - 1 := by omega
      obtain ⟨f, rfl⟩ : ∃ f', f = f' + 1 := ⟨f - 1, by
        have : f ≠ 0 := by
          rintro rfl
          have h1 : m = P := hp.out
          omega
        omega⟩
      have hpo : Hid (padL f (2 * m) n = P) := Lib.hid (by
        have := hp.out
        rw [show padL (f + 1) m n = if m < 2 * n - 1 then padL f (2 * m) n else m from rfl, if_pos hlt] at this
        exact this)
      clear hp
      go_wp2
      exact ⟨⟨f, 2 * m, by go_num, by omega, by omega, hpo⟩, by simp [intOf]; omega⟩
    · have hlti : ¬ (m : Int) < 2 * (n : Int) - 1 := by omega
      have HE : Hid (m = P) := Lib.hid (by
        have := hp.out
        rcases f with _ | f
        · exact this
        · rw [show padL (f + 1) m n = if m < 2 * n - 1 then padL f (2 * m) n else m from rfl, if_neg hlt] at this
          exact this)
      clear hp hlt
      go_wp2
      go_ret2
      exact ⟨by rw [← HE.out]; rfl, rfl⟩

/-- The powers of the least root. -/
def pwF (p k : Nat) : Nat := pmod (rootB p) k p

end Go.Proofs.YtmgfaeineklccaaGreat
