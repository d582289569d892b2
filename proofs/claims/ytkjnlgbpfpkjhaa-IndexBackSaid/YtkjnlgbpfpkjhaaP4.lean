/- Plain laws on rectangles that are turned. -/
import Derived.Test.YtkjnlgbpfpkjhaaP3
set_option linter.unusedSimpArgs false
set_option linter.unusedVariables false
namespace Go.Proofs.Ytkjnlgbpfpkjhaa

/-- Where a place goes. -/
def tp (R C : Nat) : Nat → Int := fun at_ => (at_ : Int) % (C : Int) * (R : Int) + (at_ : Int) / (C : Int)
/-- Where a place comes from. -/
def tq (R C : Nat) : Nat → Nat := fun i => (i % R) * C + i / R

theorem tp_nat (R C y : Nat) : tp R C y = ((y % C * R + y / C : Nat) : Int) := by
  unfold tp
  simp

theorem tq_lt {R C i : Nat} (h : i < R * C) : tq R C i < R * C := by
  unfold tq
  have hR : 0 < R := by
    rcases R with _ | R
    · simp at h
    · omega
  have h1 : i % R < R := Nat.mod_lt _ hR
  have h2 : i / R < C := Nat.div_lt_of_lt_mul h
  have h3 : (i % R + 1) * C ≤ R * C := Nat.mul_le_mul_right _ h1
  rw [Nat.add_mul] at h3
  omega

theorem tp_tq {R C i : Nat} (h : i < R * C) : tp R C (tq R C i) = i := by
  rw [tp_nat]
  unfold tq
  have hR : 0 < R := by
    rcases R with _ | R
    · simp at h
    · omega
  have h2 : i / R < C := Nat.div_lt_of_lt_mul h
  have e1 : (i % R * C + i / R) % C = i / R := by rw [Nat.mul_comm, Nat.mul_add_mod, Nat.mod_eq_of_lt h2]
  have e2 : (i % R * C + i / R) / C = i % R := by rw [Nat.mul_comm, Nat.mul_add_div (by omega), Nat.div_eq_of_lt h2, Nat.add_zero]
  rw [e1, e2]
  have := Nat.div_add_mod i R
  rw [Nat.mul_comm] at this
  omega

theorem tp_lt {R C y : Nat} (h : y < R * C) : 0 ≤ tp R C y ∧ tp R C y < ((R * C : Nat) : Int) := by
  rw [tp_nat]
  have hC : 0 < C := by
    rcases C with _ | C
    · simp at h
    · omega
  have h1 : y % C < C := Nat.mod_lt _ hC
  have h2 : y / C < R := Nat.div_lt_of_lt_mul (by rw [Nat.mul_comm]; exact h)
  have h3 : (y % C + 1) * R ≤ C * R := Nat.mul_le_mul_right _ h1
  rw [Nat.add_mul, Nat.mul_comm C R] at h3
  have h4 : y % C * R + y / C < R * C := by omega
  exact ⟨Int.natCast_nonneg _, Int.ofNat_lt.2 h4⟩

theorem tq_tp {R C y : Nat} (h : y < R * C) : tq R C (tp R C y).toNat = y := by
  rw [tp_nat, Int.toNat_natCast]
  unfold tq
  have hC : 0 < C := by
    rcases C with _ | C
    · simp at h
    · omega
  have h2 : y / C < R := Nat.div_lt_of_lt_mul (by rw [Nat.mul_comm]; exact h)
  have e1 : (y % C * R + y / C) % R = y / C := by rw [Nat.mul_comm, Nat.mul_add_mod, Nat.mod_eq_of_lt h2]
  have e2 : (y % C * R + y / C) / R = y % C := by rw [Nat.mul_comm, Nat.mul_add_div (by omega), Nat.div_eq_of_lt h2, Nat.add_zero]
  rw [e1, e2]
  have := Nat.div_add_mod y C
  rw [Nat.mul_comm] at this
  omega

theorem tp_perm (R C : Nat) : Perm (tp R C) (R * C) :=
  ⟨fun i hi => (tp_lt hi).1, fun i hi => (tp_lt hi).2, fun i j hi hj e => by rw [← tq_tp hi, e, tq_tp hj]⟩

/-- What a list holds whose circles below x have been gone round. -/
def Moved (p : Nat → Int) (f g : Nat → Int) (n x : Nat) : Prop := ∀ y, y < n → (keeps p x y = true → g y = f y) ∧ (keeps p x y = false → g (p y).toNat = f y)

theorem Moved.start (p f : Nat → Int) (n : Nat) : Moved p f f n 0 := fun y hy => ⟨fun _ => rfl, fun h => by rw [keeps_zero] at h; cases h⟩

/-- In the midst of x's circle: j elements put where they go. -/
def putG (p f g : Nat → Int) (x : Nat) : Nat → (Nat → Int)
  | 0 => g
  | j + 1 => fun i => if i = it p x (j + 1) then f (it p x j) else putG p f g x j i

theorem putG_far {p f g : Nat → Int} {x y : Nat} : ∀ {j}, (∀ i, 1 ≤ i → i ≤ j → it p x i ≠ y) → putG p f g x j y = g y
  | 0, _ => rfl
  | j + 1, h => by
    show (if y = it p x (j + 1) then f (it p x j) else putG p f g x j y) = g y
    rw [if_neg (fun e => h (j + 1) (by omega) (by omega) e.symm)]
    exact putG_far (fun i h1 h2 => h i h1 (by omega))

theorem putG_at {p f g : Nat → Int} {n x L : Nat} (hp : Perm p n) (hx : x < n) (c : Cyc p x L) : ∀ {j i}, 1 ≤ i → i ≤ j → j ≤ L → putG p f g x j (it p x i) = f (it p x (i - 1))
  | 0, i, h1, h2, _ => by omega
  | j + 1, i, h1, h2, h3 => by
    show (if it p x i = it p x (j + 1) then f (it p x j) else putG p f g x j (it p x i)) = _
    by_cases e : i = j + 1
    · subst e; rw [if_pos rfl]; rfl
    · have hne : it p x i ≠ it p x (j + 1) := by
        intro e2
        -- one step back: both are numbers of the circle that differ
        have a : it p x i = it p (it p x 1) (i - 1) := by rw [← it_add]; congr 1; omega
        have b : it p x (j + 1) = it p (it p x 1) j := by rw [← it_add]; congr 1; omega
        have a1 : it p x (i - 1 + 1) = it p x (j + 1) := by rw [show i - 1 + 1 = i from by omega]; exact e2
        have e3 : (p (it p x (i - 1))).toNat = (p (it p x j)).toNat := a1
        have l1 := it_lt hp hx (i - 1)
        have l2 := it_lt hp hx j
        have := hp.lo _ l1
        have := hp.lo _ l2
        exact cyc_inj hp hx c (show i - 1 < j by omega) (by omega) (hp.inj _ _ l1 l2 (by omega))
      rw [if_neg hne]
      exact putG_at hp hx c h1 (by omega) (by omega)

/-- What is taken out when the next element is put. -/
theorem putG_next {p f g : Nat → Int} {n x j : Nat} (hp : Perm p n) (hx : x < n) (hm : Moved p f g n x) (hl : lst p x = true) (hj : j < per p x) : putG p f g x j (it p x (j + 1)) = f (it p x (j + 1)) := by
  have c := per_cyc hp hx
  rw [putG_far (fun i h1 h2 e => ?_)]
  · exact (hm _ (it_lt hp hx _)).1 (by rw [keeps_it hp hx]; exact hl)
  · by_cases e2 : j + 1 = per p x
    · rw [e2, c.back] at e
      exact c.first i h1 (by omega) e
    · exact cyc_inj hp hx c (show i < j + 1 by omega) (by omega) e

theorem Moved.next {p f g : Nat → Int} {n x : Nat} (hp : Perm p n) (hx : x < n) (hm : Moved p f g n x) (hl : lst p x = true) : Moved p f (putG p f g x (per p x)) n (x + 1) := by
  intro y hy
  have c := per_cyc hp hx
  have hk := keeps_yes hp hx hy hl
  by_cases ho : ∃ i, i < per p x ∧ it p x i = y
  · obtain ⟨i, hi, rfl⟩ := ho
    refine ⟨fun h => ?_, fun _ => ?_⟩
    · rw [hk, Bool.and_eq_true, decide_eq_true_iff] at h
      exact absurd rfl (h.2 i hi)
    · have := putG_at (f := f) (g := g) hp hx c (i := i + 1) (j := per p x) (by omega) (by omega) (Nat.le_refl _)
      exact this
  · have hno : ∀ i, i < per p x → it p x i ≠ y := fun i hi e => ho ⟨i, hi, e⟩
    have e1 : keeps p (x + 1) y = keeps p x y := by
      rw [hk]
      have : decide (∀ i, i < per p x → it p x i ≠ y) = true := decide_eq_true hno
      rw [this, Bool.and_true]
    rw [e1]
    refine ⟨fun h => ?_, fun h => ?_⟩
    · rw [putG_far (fun i h1 h2 e => ?_)]
      · exact (hm y hy).1 h
      · obtain ⟨k, hk2, e2⟩ := cyc_mod c i
        exact hno k hk2 (by rw [← e2]; exact e)
    · have hy2 : (p y).toNat = it p y 1 := rfl
      rw [putG_far (fun i h1 h2 e => ?_)]
      · exact (hm y hy).2 h
      · -- p y would lie on x's circle, and so would y
        have a : keeps p x (it p x i) = true := by rw [keeps_it hp hx]; exact hl
        rw [e, hy2, keeps_it hp hy, h] at a
        cases a

theorem Moved.skip {p f g : Nat → Int} {n x : Nat} (hp : Perm p n) (hm : Moved p f g n x) (hl : lst p x = false) : Moved p f g n (x + 1) := fun y hy => by
  rw [keeps_not hp hy hl]; exact hm y hy

/-- In the end every element is where it goes. -/
theorem Moved.all {p f g : Nat → Int} {n : Nat} (hp : Perm p n) (hm : Moved p f g n n) {y : Nat} (hy : y < n) : g (p y).toNat = f y := by
  refine (hm y hy).2 ?_
  rw [Bool.eq_false_iff]
  intro h
  have := (keeps_iff _ _ _).1 h 0
  have e : it p y 0 = y := rfl
  omega

/-- The turned list. -/
def turnT (f : Nat → Int) (R C : Nat) : Nat → Int := fun i => f (tq R C i)

theorem Moved.turned {f g : Nat → Int} {R C : Nat} (hm : Moved (tp R C) f g (R * C) (R * C)) {i : Nat} (hi : i < R * C) : g i = turnT f R C i := by
  have := hm.all (tp_perm R C) (tq_lt hi)
  rw [tp_tq hi, Int.toNat_natCast] at this
  exact this

end Go.Proofs.Ytkjnlgbpfpkjhaa
