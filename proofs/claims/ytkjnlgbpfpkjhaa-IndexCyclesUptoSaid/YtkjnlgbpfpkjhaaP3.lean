/- Plain laws on permutations: a number's circle. -/
set_option linter.unusedSimpArgs false
set_option linter.unusedVariables false
namespace Go.Proofs.Ytkjnlgbpfpkjhaa

/-- Where one comes from x in j steps. -/
def it (p : Nat → Int) (x : Nat) : Nat → Nat
  | 0 => x
  | j + 1 => (p (it p x j)).toNat

/-- All places are such, and no two lead to one. -/
structure Perm (p : Nat → Int) (n : Nat) : Prop where
  lo : ∀ i, i < n → 0 ≤ p i
  hi : ∀ i, i < n → p i < n
  inj : ∀ i j, i < n → j < n → p i = p j → i = j

theorem it_lt {p : Nat → Int} {n x : Nat} (h : Perm p n) (hx : x < n) : ∀ j, it p x j < n
  | 0 => hx
  | j + 1 => by
    have a := it_lt h hx j
    have b := h.lo _ a
    have c := h.hi _ a
    show (p (it p x j)).toNat < n
    omega

theorem it_add (p : Nat → Int) (x i : Nat) : ∀ j, it p x (i + j) = it p (it p x i) j
  | 0 => rfl
  | j + 1 => by
    show (p (it p x (i + j))).toNat = (p (it p (it p x i) j)).toNat
    rw [it_add p x i j]

theorem it_back {p : Nat → Int} {n x y : Nat} (h : Perm p n) (hx : x < n) (hy : y < n) : ∀ j, it p x j = it p y j → x = y
  | 0, e => e
  | j + 1, e => by
    have a := it_lt h hx j
    have b := it_lt h hy j
    have e' : (p (it p x j)).toNat = (p (it p y j)).toNat := e
    have := h.lo _ a
    have := h.lo _ b
    exact it_back h hx hy j (h.inj _ _ a b (by omega))

/-- Of n + 1 numbers below n two are one. -/
theorem pigeon : ∀ (n : Nat) (f : Nat → Nat), (∀ i, i ≤ n → f i < n) → ∃ i j, i < j ∧ j ≤ n ∧ f i = f j
  | 0, f, h => absurd (h 0 (Nat.le_refl _)) (by omega)
  | n + 1, f, h => by
    by_cases hc : ∃ i, i ≤ n ∧ f i = f (n + 1)
    · obtain ⟨i, hi, e⟩ := hc
      exact ⟨i, n + 1, by omega, Nat.le_refl _, e⟩
    · have hne : ∀ i, i ≤ n → f i ≠ f (n + 1) := fun i hi e => hc ⟨i, hi, e⟩
      obtain ⟨i, j, h1, h2, h3⟩ := pigeon n (fun i => if f (n + 1) < f i then f i - 1 else f i) (fun i hi => by
        have a := h i (by omega)
        have b := h (n + 1) (Nat.le_refl _)
        have c := hne i hi
        show (if f (n + 1) < f i then f i - 1 else f i) < n
        split <;> omega)
      refine ⟨i, j, h1, by omega, ?_⟩
      have a := hne i (by omega)
      have b := hne j (by omega)
      split at h3 <;> split at h3 <;> omega

/-- x lies on a circle of L numbers. -/
structure Cyc (p : Nat → Int) (x L : Nat) : Prop where
  pos : 1 ≤ L
  back : it p x L = x
  first : ∀ j, 1 ≤ j → j < L → it p x j ≠ x

theorem least_of {P : Nat → Prop} : ∀ n, P n → ∃ m, m ≤ n ∧ P m ∧ ∀ j, j < m → ¬ P j := by
  intro n
  induction n using Nat.strongRecOn with
  | _ n ih =>
    intro h
    by_cases hc : ∃ j, j < n ∧ P j
    · obtain ⟨j, hj, hp⟩ := hc
      obtain ⟨m, h1, h2, h3⟩ := ih j hj hp
      exact ⟨m, by omega, h2, h3⟩
    · exact ⟨n, Nat.le_refl _, h, fun j hj hp => hc ⟨j, hj, hp⟩⟩

theorem cyc_ex {p : Nat → Int} {n x : Nat} (h : Perm p n) (hx : x < n) : ∃ L, Cyc p x L ∧ L ≤ n := by
  obtain ⟨i, j, h1, h2, h3⟩ := pigeon n (it p x) (fun i _ => it_lt h hx i)
  have e : it p x (j - i) = x := by
    have a := it_add p x (j - i) i
    have b : it p x ((j - i) + i) = it p x j := by congr 1; omega
    rw [b, ← h3] at a
    exact (it_back h hx (it_lt h hx _) i a).symm
  obtain ⟨m, m1, ⟨m2, m3⟩, m4⟩ := least_of (P := fun d => 1 ≤ d ∧ it p x d = x) (j - i) ⟨by omega, e⟩
  exact ⟨m, ⟨m2, m3, fun j a b e => m4 j b ⟨a, e⟩⟩, by omega⟩

theorem Cyc.uniq {p : Nat → Int} {x L K : Nat} (h : Cyc p x L) (k : Cyc p x K) : L = K := by
  rcases Nat.lt_trichotomy L K with a | a | a
  · exact absurd h.back (k.first L h.pos a)
  · exact a
  · exact absurd k.back (h.first K k.pos a)

open Classical in
/-- How many numbers a circle has. -/
noncomputable def per (p : Nat → Int) (x : Nat) : Nat := if h : ∃ L, Cyc p x L then Classical.choose h else 0
theorem per_cyc {p : Nat → Int} {n x : Nat} (h : Perm p n) (hx : x < n) : Cyc p x (per p x) := by
  obtain ⟨L, hL, _⟩ := cyc_ex h hx
  have he : ∃ L, Cyc p x L := ⟨L, hL⟩
  unfold per
  rw [dif_pos he]
  exact Classical.choose_spec he
theorem per_eq {p : Nat → Int} {x L : Nat} (h : Cyc p x L) : per p x = L := by
  have he : ∃ L, Cyc p x L := ⟨L, h⟩
  unfold per
  rw [dif_pos he]
  exact (Classical.choose_spec he).uniq h
theorem per_le {p : Nat → Int} {n x : Nat} (h : Perm p n) (hx : x < n) : per p x ≤ n := by
  obtain ⟨L, hL, hl⟩ := cyc_ex h hx
  rw [per_eq hL]; exact hl

/-- Within a circle no number comes twice. -/
theorem cyc_inj {p : Nat → Int} {n x L i j : Nat} (h : Perm p n) (hx : x < n) (c : Cyc p x L) (hij : i < j) (hj : j < L) : it p x i ≠ it p x j := by
  intro e
  have a := it_add p x (j - i) i
  have b : it p x ((j - i) + i) = it p x j := by congr 1; omega
  rw [b, ← e] at a
  exact c.first (j - i) (by omega) (by omega) (it_back h hx (it_lt h hx _) i a).symm

/-- Every number that is reached lies among the first L. -/
theorem cyc_mod {p : Nat → Int} {x L : Nat} (c : Cyc p x L) : ∀ j, ∃ i, i < L ∧ it p x j = it p x i := by
  intro j
  induction j with
  | zero => exact ⟨0, c.pos, rfl⟩
  | succ j ih =>
    obtain ⟨i, hi, e⟩ := ih
    by_cases h : i + 1 < L
    · exact ⟨i + 1, h, by show (p (it p x j)).toNat = (p (it p x i)).toNat; rw [e]⟩
    · refine ⟨0, c.pos, ?_⟩
      have : i + 1 = L := by omega
      have b := c.back
      rw [← this] at b
      show (p (it p x j)).toNat = x
      rw [e]
      exact b

/-- From every number of a circle one comes to every other. -/
theorem reach_back {p : Nat → Int} {n x : Nat} (h : Perm p n) (hx : x < n) (j : Nat) : ∃ i, it p (it p x j) i = x := by
  have c := per_cyc h hx
  obtain ⟨i, hi, e⟩ := cyc_mod c j
  refine ⟨per p x - i, ?_⟩
  rw [e, ← it_add, show i + (per p x - i) = per p x from by omega]
  exact c.back

open Classical in
/-- Is no number of y's circle below x? -/
noncomputable def keeps (p : Nat → Int) (x y : Nat) : Bool := decide (∀ j, x ≤ it p y j)
/-- Is x the least of its circle? -/
noncomputable def lst (p : Nat → Int) (x : Nat) : Bool := keeps p x x

theorem keeps_iff (p : Nat → Int) (x y : Nat) : keeps p x y = true ↔ ∀ j, x ≤ it p y j := by unfold keeps; simp
theorem keeps_zero (p : Nat → Int) (y : Nat) : keeps p 0 y = true := (keeps_iff _ _ _).2 fun j => Nat.zero_le _

/-- The circle is one whichever number of it one begins at. -/
theorem keeps_it {p : Nat → Int} {n y : Nat} (h : Perm p n) (hy : y < n) (x i : Nat) : keeps p x (it p y i) = keeps p x y := by
  rw [Bool.eq_iff_iff, keeps_iff, keeps_iff]
  constructor
  · intro hh j
    obtain ⟨k, hk⟩ := reach_back h hy i
    have := hh (k + j)
    rw [it_add, hk] at this
    exact this
  · intro hh j
    rw [← it_add]
    exact hh _

theorem keeps_not {p : Nat → Int} {n x y : Nat} (h : Perm p n) (hy : y < n) (hl : lst p x = false) : keeps p (x + 1) y = keeps p x y := by
  rw [Bool.eq_iff_iff, keeps_iff, keeps_iff]
  constructor
  · intro hh j; have := hh j; omega
  · intro hh j
    have a := hh j
    by_cases e : it p y j = x
    · have b := keeps_it h hy x j
      rw [e] at b
      unfold lst at hl
      rw [hl] at b
      have : keeps p x y = true := (keeps_iff _ _ _).2 hh
      rw [this] at b
      cases b
    · omega

/-- What is left when x's circle is struck. -/
theorem keeps_yes {p : Nat → Int} {n x y : Nat} (h : Perm p n) (hx : x < n) (hy : y < n) (hl : lst p x = true) :
    keeps p (x + 1) y = (keeps p x y && decide (∀ i, i < per p x → it p x i ≠ y)) := by
  rw [Bool.eq_iff_iff, Bool.and_eq_true, keeps_iff, keeps_iff, decide_eq_true_iff]
  constructor
  · intro hh
    refine ⟨fun j => by have := hh j; omega, fun i hi e => ?_⟩
    obtain ⟨k, hk⟩ := reach_back h hx i
    rw [e] at hk
    have := hh k
    omega
  · intro ⟨h1, h2⟩ j
    have a := h1 j
    by_cases e : it p y j = x
    · obtain ⟨k, hk⟩ := reach_back h hy j
      rw [e] at hk
      obtain ⟨i, hi, e2⟩ := cyc_mod (per_cyc h hx) k
      rw [hk] at e2
      exact absurd e2.symm (h2 i hi)
    · omega

/-- The least numbers of the circles, below k. -/
noncomputable def starts (p : Nat → Int) (k : Nat) : List Nat := (List.range k).filter (lst p)
theorem starts_succ (p : Nat → Int) (k : Nat) : starts p (k + 1) = starts p k ++ if lst p k then [k] else [] := by
  unfold starts
  rw [List.range_succ, List.filter_append]
  by_cases h : lst p k = true
  · simp [h]
  · simp [h]
theorem starts_le (p : Nat → Int) (k : Nat) : (starts p k).length ≤ k := by
  have := List.length_filter_le (lst p) (List.range k)
  simpa [starts] using this
theorem starts_lt {p : Nat → Int} {k i x : Nat} (h : (starts p k)[i]? = some x) : x < k := by
  have := List.mem_of_getElem? h
  unfold starts at this
  rw [List.mem_filter, List.mem_range] at this
  exact this.1

end Go.Proofs.Ytkjnlgbpfpkjhaa
