/- Sums over remainders by a number: plain laws. -/

set_option linter.unusedSimpArgs false
set_option linter.unusedVariables false
namespace Go.Proofs.Yteaimnemobnknaa

/-- The sum of f 0, .., f (n - 1). -/
def sumF {q : Nat} [NeZero q] : Nat → (Nat → Fin q) → Fin q
  | 0, _ => 0
  | n + 1, f => sumF n f + f n

section
variable {q : Nat} [NeZero q]
theorem sumF_succ (n : Nat) (f : Nat → Fin q) : sumF (n + 1) f = sumF n f + f n := rfl
theorem sumF_nil (f : Nat → Fin q) : sumF 0 f = 0 := rfl
theorem sumF_congr {n : Nat} {f g : Nat → Fin q} (h : ∀ k, k < n → f k = g k) : sumF n f = sumF n g := by
  induction n with
  | zero => rfl
  | succ n ih => rw [sumF_succ, sumF_succ, ih fun k hk => h k (by omega), h n (by omega)]
theorem sumF_zero (n : Nat) : sumF n (fun _ => (0 : Fin q)) = 0 := by
  induction n with
  | zero => rfl
  | succ n ih => rw [sumF_succ, ih]; grind
theorem sumF_add (n : Nat) (f g : Nat → Fin q) : sumF n (fun k => f k + g k) = sumF n f + sumF n g := by
  induction n with
  | zero => rw [sumF_nil, sumF_nil, sumF_nil]; grind
  | succ n ih => rw [sumF_succ, sumF_succ, sumF_succ, ih]; grind
theorem sumF_left (n : Nat) (c : Fin q) (f : Nat → Fin q) : sumF n (fun k => c * f k) = c * sumF n f := by
  induction n with
  | zero => rw [sumF_nil, sumF_nil]; grind
  | succ n ih => rw [sumF_succ, sumF_succ, ih]; grind
theorem sumF_right (n : Nat) (c : Fin q) (f : Nat → Fin q) : sumF n (fun k => f k * c) = sumF n f * c := by
  induction n with
  | zero => rw [sumF_nil, sumF_nil]; grind
  | succ n ih => rw [sumF_succ, sumF_succ, ih]; grind
theorem sumF_comm (n m : Nat) (f : Nat → Nat → Fin q) : sumF n (fun i => sumF m (fun j => f i j)) = sumF m (fun j => sumF n (fun i => f i j)) := by
  induction n with
  | zero =>
    rw [sumF_nil]
    exact (sumF_zero m).symm
  | succ n ih =>
    rw [sumF_succ, ih, ← sumF_add]
    rfl
theorem sumF_app (n m : Nat) (f : Nat → Fin q) : sumF (n + m) f = sumF n f + sumF m (fun k => f (n + k)) := by
  induction m with
  | zero => rw [sumF_nil]; show sumF n f = _; grind
  | succ m ih => show sumF (n + m) f + f (n + m) = _; rw [ih, sumF_succ]; grind
theorem sumF_grid (r c : Nat) (f : Nat → Fin q) : sumF (r * c) f = sumF c (fun b => sumF r (fun i => f (b + i * c))) := by
  rw [sumF_comm]
  induction r with
  | zero => rw [Nat.zero_mul, sumF_nil, sumF_nil]
  | succ r ih =>
    rw [Nat.succ_mul, sumF_app, ih, sumF_succ]
    congr 1
    exact sumF_congr fun k _ => by rw [Nat.add_comm]
theorem sumF_one (n j : Nat) (f : Nat → Fin q) (hj : j < n) : sumF n (fun k => if k = j then f k else 0) = f j := by
  induction n with
  | zero => omega
  | succ n ih =>
    rw [sumF_succ]
    by_cases e : n = j
    · subst e
      rw [if_pos rfl, sumF_congr (g := fun _ => 0) fun k hk => by rw [if_neg (by omega)], sumF_zero]
      grind
    · rw [ih (by omega), if_neg e]; grind
/-- A sum in another order. -/
theorem sumF_perm (n : Nat) (s : Nat → Nat) (f : Nat → Fin q) (hm : ∀ k, k < n → s k < n) (hi : ∀ k l, k < n → l < n → s k = s l → k = l) : sumF n (fun k => f (s k)) = sumF n f := by
  induction n generalizing s f with
  | zero => rfl
  | succ n ih =>
    -- the place of n
    have hex : ∃ j, j < n + 1 ∧ s j = n := by
      apply Classical.byContradiction
      intro hno
      have hlt : ∀ k, k < n + 1 → s k < n := fun k hk => by
        have := hm k hk
        have : s k ≠ n := fun e => hno ⟨k, hk, e⟩
        omega
      exact pigeon n s hlt hi
    obtain ⟨j, hj, hjn⟩ := hex
    -- t: as s, but j takes what n had
    have ht := ih (fun k => if k = j then s n else s k) f
      (fun k hk => by
        show (if k = j then s n else s k) < n
        by_cases e : k = j
        · rw [if_pos e]
          have := hm n (by omega)
          have : s n ≠ n := fun h => by have := hi n j (by omega) hj (by omega); omega
          omega
        · rw [if_neg e]
          have := hm k (by omega)
          have : s k ≠ n := fun h => e (hi k j (by omega) hj (by omega))
          omega)
      (fun k l hk hl h => by
        by_cases e : k = j
        · by_cases e2 : l = j
          · omega
          · rw [if_pos e, if_neg e2] at h
            have := hi n l (by omega) (by omega) h
            omega
        · by_cases e2 : l = j
          · rw [if_neg e, if_pos e2] at h
            have := hi k n (by omega) (by omega) h
            omega
          · rw [if_neg e, if_neg e2] at h
            exact hi k l (by omega) (by omega) h)
    rw [sumF_succ, sumF_succ, ← ht]
    by_cases e : j = n
    · subst e
      rw [hjn]
      congr 1
      exact sumF_congr fun k hk => by rw [if_neg (by omega)]
    · have h1 : sumF n (fun k => f (s k)) = sumF n (fun k => (if k = j then f (s k) else 0) + (if k = j then 0 else f (s k))) := sumF_congr fun k _ => by
        by_cases e : k = j
        · rw [if_pos e, if_pos e]; grind
        · rw [if_neg e, if_neg e]; grind
      have h2 : sumF n (fun k => f (if k = j then s n else s k)) = sumF n (fun k => (if k = j then f (s n) else 0) + (if k = j then 0 else f (s k))) := sumF_congr fun k _ => by
        by_cases e : k = j
        · rw [if_pos e, if_pos e, if_pos e]; grind
        · rw [if_neg e, if_neg e, if_neg e]; grind
      rw [h1, h2, sumF_add, sumF_add, sumF_one n j (fun k => f (s k)) (by omega), sumF_one n j (fun _ => f (s n)) (by omega), hjn]
      grind
where
  pigeon : ∀ (n : Nat) (s : Nat → Nat), (∀ k, k < n + 1 → s k < n) → (∀ k l, k < n + 1 → l < n + 1 → s k = s l → k = l) → False := by
    intro n
    induction n with
    | zero => intro s h _; have := h 0 (by omega); omega
    | succ n ih =>
      intro s h hi
      refine ih (fun k => if s k = n then s (n + 1) else s k) (fun k hk => ?_) (fun k l hk hl e => ?_)
      · by_cases e : s k = n
        · rw [if_pos e]
          have := h (n + 1) (by omega)
          have : s (n + 1) ≠ n := fun e2 => by have := hi k (n + 1) (by omega) (by omega) (by omega); omega
          omega
        · rw [if_neg e]
          have := h k (by omega)
          omega
      · by_cases e1 : s k = n
        · by_cases e2 : s l = n
          · exact hi k l (by omega) (by omega) (by omega)
          · rw [if_pos e1, if_neg e2] at e
            have := hi (n + 1) l (by omega) (by omega) e
            omega
        · by_cases e2 : s l = n
          · rw [if_neg e1, if_pos e2] at e
            have := hi k (n + 1) (by omega) (by omega) e
            omega
          · rw [if_neg e1, if_neg e2] at e
            exact hi k l (by omega) (by omega) e
end
end Go.Proofs.Yteaimnemobnknaa
/- What the transforms reckon, as functions over the operations of a ring: plain. -/
set_option linter.unusedSimpArgs false
set_option linter.unusedVariables false
namespace Go.Proofs.Yteaimnemobnknaa

/-- A ring's operations. -/
structure Rg (T : Type) where
  zero : T
  add : T → T → T
  sub : T → T → T
  mul : T → T → T
  over : T → Int → T
  root : Int → Int → T

/-- n rounds. -/
def foldT {T : Type} : Nat → (T → Nat → T) → T → T
  | 0, _, z => z
  | n + 1, f, z => f (foldT n f z) n

/-- A row with one element turned. -/
def updT {T : Type} (f : Nat → T) (j : Nat) (v : T) : Nat → T := fun i => if i = j then v else f i

def unitI (s : Int) : Int := if s < 0 then -1 else 1

section
variable {T : Type} (R : Rg T)

def dotF (n : Nat) (s : Int) (x : Nat → T) (j : Nat) : Nat → T := fun m => foldT m (fun acc k => R.add acc (R.mul (x k) (R.root (unitI s * ((j * k % n : Nat) : Int)) n))) R.zero
def directF (n : Nat) (s : Int) (x : Nat → T) : Nat → T := fun j => dotF R n s x j n
def twistF (rows cols : Nat) (s : Int) (x : Nat → T) : Nat → T := fun y => R.mul (x y) (R.root (unitI s * ((y / cols : Nat) : Int) * ((y % cols : Nat) : Int)) ((rows * cols : Nat) : Int))
def timesF (a b : Nat → T) : Nat → T := fun i => R.mul (a i) (b i)
def overF (a : Nat → T) (n : Int) : Nat → T := fun i => R.over (a i) n
def sumT (n : Nat) (a : Nat → T) : T := foldT n (fun acc k => R.add acc (a k)) R.zero
def gathT (x : Nat → T) (off st : Nat) : Nat → T := fun i => x (off + i * st)
/-- m elements put at every st-th place from off on. -/
def scatT (g f : Nat → T) (off st m : Nat) : Nat → T := foldT m (fun h k => updT h (off + k * st) (f k)) g

abbrev Tr (T : Type) := Int → (Nat → T) → Nat → T

def mid0F (c r : Nat) (s : Int) (K : Tr T) (x : Nat → T) : Nat → Nat → T := fun m => foldT m (fun h b => scatT h (K s (gathT x b c)) b c r) (fun _ => R.zero)
def midF (n r : Nat) (s : Int) (K : Tr T) (x : Nat → T) : Nat → T := twistF R r (n / r) s (mid0F R (n / r) r s K x (n / r))
def outF (n r : Nat) (s : Int) (K0 K1 : Tr T) (x : Nat → T) : Nat → Nat → T := fun m => foldT m (fun h a => scatT h (K1 s (gathT (midF R n r s K0 x) (a * (n / r)) 1)) a r (n / r)) (fun _ => R.zero)
def radixF (n r : Nat) (K0 K1 : Tr T) : Tr T := fun s x => outF R n r s K0 K1 x r

/-- A round of the split radix. -/
def splitR (n : Nat) (s : Int) (e z y : Nat → T) (h : Nat → T) (k : Nat) : Nat → T :=
  let q := n / 4
  let i := R.root (s * ((q : Nat) : Int)) n
  let u := R.mul (R.root (s * (k : Int)) n) (z k)
  let v := R.mul (R.root (s * (-(k : Int))) n) (y k)
  let a := R.add u v
  let d := R.mul i (R.sub u v)
  updT (updT (updT (updT h k (R.add (e k) a)) (k + 2 * q) (R.sub (e k) a)) (k + q) (R.add (e (k + q)) d)) (k + 3 * q) (R.sub (e (k + q)) d)
def consT (a : T) (f : Nat → T) : Nat → T := fun i => if i = 0 then a else f (i - 1)
def splitF : Nat → Nat → Tr T
  | 0, n => directF R n
  | f + 1, n => fun s x =>
    if n < 4 then directF R n s x else
    foldT (n / 4) (splitR R n s (splitF f (n / 2) s (gathT x 0 2)) (splitF f (n / 4) s (gathT x 1 4)) (splitF f (n / 4) s (consT (x (n - 1)) (gathT x 3 4)))) (fun _ => R.zero)

/-- The circular convolution by three transforms. -/
def convF (m : Nat) (K : Tr T) (a b : Nat → T) : Nat → T := overF R (K (-1) (timesF R (K 1 a) (K 1 b))) m

def raderA (pw : Nat → Nat) (x : Nat → T) : Nat → T := fun k => x (pw k)
def raderB (n : Nat) (s : Int) (pw : Nat → Nat) : Nat → T := fun k => R.root (s * ((pw ((n - 1 - k) % (n - 1)) : Nat) : Int)) n
def raderO (n : Nat) (pw : Nat → Nat) (x c : Nat → T) (m : Nat) : Nat → T := foldT m (fun h k => updT h (pw ((n - 1 - k) % (n - 1))) (R.add (x 0) (c k))) (updT (fun _ => R.zero) 0 (sumT R n x))
def raderF (n : Nat) (pw : Nat → Nat) (K : Tr T) : Tr T := fun s x => raderO R n pw x (convF R (n - 1) K (raderA pw x) (raderB R n s pw)) (n - 1)

def sqr (n k : Nat) : Nat := k * k % (2 * n)
def blueC (n : Nat) (s : Int) : Nat → T := fun k => R.root (s * ((sqr n k : Nat) : Int)) ((2 * n : Nat) : Int)
def blueD (n : Nat) (s : Int) : Nat → T := fun k => R.root (s * (-((sqr n k : Nat) : Int))) ((2 * n : Nat) : Int)
def blueA (n : Nat) (s : Int) (x : Nat → T) (j : Nat) : Nat → T := fun k => if k < j then R.mul (x k) (blueC R n s k) else R.zero
def blueB (n m : Nat) (s : Int) (j : Nat) : Nat → T := foldT j (fun h k => updT (updT h k (blueD R n s k)) ((m - k) % m) (blueD R n s k)) (fun _ => R.zero)
def blueF (n m : Nat) (K : Tr T) : Tr T := fun s x => timesF R (convF R m K (blueA R n s x n) (blueB R n m s n)) (blueC R n s)

/-- What a node does, by what its kids do. -/
def nodeF (pw : Nat → Nat → Nat) (kind : Int) (n r : Nat) (ns : List Nat) (Ks : List (Tr T)) : Tr T :=
  if kind = 1 then radixF R n r (Ks.getD 0 fun _ x => x) (Ks.getD 1 fun _ x => x)
  else if kind = 2 then splitF R n n
  else if kind = 3 then raderF R n (pw n) (Ks.getD 0 fun _ x => x)
  else if kind = 4 then blueF R n (ns.getD 0 0) (Ks.getD 0 fun _ x => x)
  else directF R n
end

/-- Plans: the first plan's kids, and the plans behind it. -/
inductive Fo
  | nil
  | cons (kind n r : Int) (kids rest : Fo)
def Fo.len : Fo → Nat
  | .nil => 0
  | .cons _ _ _ _ r => r.len + 1
def Fo.sizes : Fo → List Nat
  | .nil => []
  | .cons _ n _ _ r => n.toNat :: r.sizes
/-- What the plans do. -/
def Fo.runs {T : Type} (R : Rg T) (pw : Nat → Nat → Nat) : Fo → List (Tr T)
  | .nil => []
  | .cons kind n r kids rest => nodeF R pw kind n.toNat r.toNat kids.sizes (kids.runs R pw) :: rest.runs R pw

section
variable {T : Type}
theorem foldT_succ (n : Nat) (f : T → Nat → T) (z : T) : foldT (n + 1) f z = f (foldT n f z) n := rfl
theorem foldT_congr {n : Nat} {f g : T → Nat → T} {z : T} (h : ∀ a k, k < n → f a k = g a k) : foldT n f z = foldT n g z := by
  induction n with
  | zero => rfl
  | succ n ih => rw [foldT_succ, foldT_succ, ih fun a k hk => h a k (by omega), h _ n (by omega)]
/-- Rounds that turn one place each: what is at a place afterwards. -/
theorem fold_upd_ne (m : Nat) (p : Nat → Nat) (v : Nat → T) (g : Nat → T) (y : Nat) (h : ∀ k, k < m → p k ≠ y) : foldT m (fun h k => updT h (p k) (v k)) g y = g y := by
  induction m with
  | zero => rfl
  | succ m ih =>
    rw [foldT_succ]
    show (if y = p m then _ else _) = _
    rw [if_neg (fun e => h m (by omega) e.symm), ih fun k hk => h k (by omega)]
theorem fold_upd_at (m : Nat) (p : Nat → Nat) (v : Nat → T) (g : Nat → T) (j : Nat) (hj : j < m) (hi : ∀ k, k < m → p k = p j → k = j) : foldT m (fun h k => updT h (p k) (v k)) g (p j) = v j := by
  induction m with
  | zero => omega
  | succ m ih =>
    rw [foldT_succ]
    show (if p j = p m then _ else _) = _
    by_cases e : p j = p m
    · rw [if_pos e, hi m (by omega) e.symm]
    · rw [if_neg e]
      by_cases e2 : j = m
      · exact absurd (by rw [e2]) e
      · exact ih (by omega) fun k hk => hi k (by omega)
theorem scatT_at (g f : Nat → T) (off st m k : Nat) (hst : 1 ≤ st) (hk : k < m) : scatT g f off st m (off + k * st) = f k :=
  fold_upd_at m (fun k => off + k * st) f g k hk fun l _ e => by
    have : l * st = k * st := by omega
    exact Nat.eq_of_mul_eq_mul_right (by omega) this
theorem scatT_ne (g f : Nat → T) (off st m y : Nat) (h : ∀ k, k < m → off + k * st ≠ y) : scatT g f off st m y = g y := fold_upd_ne m (fun k => off + k * st) f g y h
/-- All columns (or rows) put to their places. -/
theorem cols_at (F : Nat → Nat → T) (c r M b i : Nat) (g : Nat → T) (hb : b < M) (hM : M ≤ c) (hi : i < r) : foldT M (fun h b => scatT h (F b) b c r) g (b + i * c) = F b i := by
  induction M with
  | zero => omega
  | succ M ih =>
    rw [foldT_succ]
    by_cases e : b = M
    · subst e
      exact scatT_at _ _ _ _ _ _ (by omega) hi
    · rw [scatT_ne _ _ _ _ _ _ fun k hk h => ?_]
      · exact ih (by omega) (by omega)
      · have e1 : (M + k * c) % c = M := by rw [Nat.add_mul_mod_self_right, Nat.mod_eq_of_lt (by omega)]
        have e2 : (b + i * c) % c = b := by rw [Nat.add_mul_mod_self_right, Nat.mod_eq_of_lt (by omega)]
        rw [h, e2] at e1
        omega
end
end Go.Proofs.Yteaimnemobnknaa
/- The transform over remainders, and each way to reckon it: plain. -/
set_option linter.unusedSimpArgs false
set_option linter.unusedVariables false
namespace Go.Proofs.Yteaimnemobnknaa

section
variable {q : Nat} [NeZero q]

/-- Roots of unity of all orders that divide N. -/
structure Rts (N : Nat) (rt : Int → Nat → Fin q) : Prop where
  zero : ∀ n, 1 ≤ n → n ∣ N → rt 0 n = 1
  add : ∀ n a b, 1 ≤ n → n ∣ N → rt (a + b) n = rt a n * rt b n
  full : ∀ n (m : Int), 1 ≤ n → n ∣ N → rt (n * m) n = 1
  scale : ∀ (m n : Nat) (k : Int), 1 ≤ m → 1 ≤ n → m * n ∣ N → rt (m * k) (m * n) = rt k n
  orth : ∀ n (j : Int), 1 ≤ n → n ∣ N → ¬ (n : Int) ∣ j → sumF n (fun k => rt (j * k) n) = 0

/-- The transform, as it is defined. -/
def dft (rt : Int → Nat → Fin q) (n : Nat) (s : Int) (x : Nat → Fin q) (j : Nat) : Fin q := sumF n fun k => x k * rt (s * ((j : Int) * k)) n

/-- The ring's operations are those of the remainders. -/
structure Hom (R : Rg Int) (N : Nat) (rt : Int → Nat → Fin q) (h : Int → Fin q) : Prop where
  rts : Rts N rt
  zero : h R.zero = 0
  one : h 1 = 1
  add : ∀ a b, h (R.add a b) = h a + h b
  sub : ∀ a b, h (R.sub a b) = h a - h b
  mul : ∀ a b, h (R.mul a b) = h a * h b
  over : ∀ a (n : Nat), 1 ≤ n → n ∣ N → h (R.over a n) * h n = h a
  many : ∀ n : Nat, h n = sumF n fun _ => 1
  root : ∀ k (n : Nat), 1 ≤ n → n ∣ N → h (R.root k n) = rt k n

variable {N : Nat} {rt : Int → Nat → Fin q}

theorem Rts.mod (H : Rts N rt) {n : Nat} (n1 : 1 ≤ n) (hn : n ∣ N) (a m : Int) : rt (a + n * m) n = rt a n := by
  rw [H.add n _ _ n1 hn, H.full n m n1 hn]; grind

theorem unit_one {s : Int} (hs : s = 1 ∨ s = -1) : unitI s = s := by
  unfold unitI
  rcases hs with rfl | rfl <;> decide

theorem Rts.red (H : Rts N rt) {n : Nat} (n1 : 1 ≤ n) (hn : n ∣ N) (s : Int) (a b : Nat) (h : a % n = b % n) : rt (s * (a : Int)) n = rt (s * (b : Int)) n := by
  have ha := Nat.mod_add_div a n
  have hb := Nat.mod_add_div b n
  have e1 : s * (a : Int) = s * ((a % n : Nat) : Int) + n * (s * ((a / n : Nat) : Int)) := by
    have : (a : Int) = ((a % n : Nat) : Int) + n * ((a / n : Nat) : Int) := by
      rw [← Int.natCast_mul, ← Int.natCast_add, ha]
    rw [this]; grind
  have e2 : s * (b : Int) = s * ((b % n : Nat) : Int) + n * (s * ((b / n : Nat) : Int)) := by
    have : (b : Int) = ((b % n : Nat) : Int) + n * ((b / n : Nat) : Int) := by
      rw [← Int.natCast_mul, ← Int.natCast_add, hb]
    rw [this]; grind
  rw [e1, e2, H.mod n1 hn, H.mod n1 hn, h]

variable {R : Rg Int} {h : Int → Fin q}

theorem Hom.fold (H : Hom R N rt h) (n : Nat) (f : Nat → Int) : h (foldT n (fun acc k => R.add acc (f k)) R.zero) = sumF n fun k => h (f k) := by
  induction n with
  | zero => exact H.zero
  | succ n ih => rw [foldT_succ, H.add, ih, sumF_succ]

/-- The transform as it is defined. -/
theorem direct_dft (H : Hom R N rt h) {n : Nat} (n1 : 1 ≤ n) (hn : n ∣ N) {s : Int} (hs : s = 1 ∨ s = -1) (x : Nat → Int) (j : Nat) : h (directF R n s x j) = dft rt n s (fun k => h (x k)) j := by
  unfold directF dotF dft
  rw [H.fold]
  refine sumF_congr fun k hk => ?_
  rw [H.mul, H.root _ _ n1 hn, unit_one hs, H.rts.red n1 hn s (j * k % n) (j * k) (Nat.mod_mod _ _), Int.natCast_mul]

/-- By rows and columns. -/
theorem radix_dft (H : Hom R N rt h) {r c : Nat} (r1 : 1 ≤ r) (c1 : 1 ≤ c) (hn : r * c ∣ N) {s : Int} (hs : s = 1 ∨ s = -1) (K0 K1 : Tr Int)
    (h0 : ∀ x j, j < r → h (K0 s x j) = dft rt r s (fun k => h (x k)) j) (h1 : ∀ x j, j < c → h (K1 s x j) = dft rt c s (fun k => h (x k)) j)
    (x : Nat → Int) (y : Nat) (hy : y < r * c) : h (radixF R (r * c) r K0 K1 s x y) = dft rt (r * c) s (fun k => h (x k)) y := by
  have ec : r * c / r = c := Nat.mul_div_cancel_left _ r1
  have hr : r ∣ N := Nat.dvd_trans (Nat.dvd_mul_right _ _) hn
  have hc : c ∣ N := Nat.dvd_trans (Nat.dvd_mul_left _ _) hn
  have n1 : 1 ≤ r * c := Nat.mul_pos r1 c1
  obtain ⟨a, ha⟩ : ∃ a, y % r = a := ⟨_, rfl⟩
  obtain ⟨d, hd⟩ : ∃ d, y / r = d := ⟨_, rfl⟩
  have ha' : a < r := by rw [← ha]; exact Nat.mod_lt _ r1
  have hd' : d < c := by rw [← hd]; exact Nat.div_lt_of_lt_mul hy
  have ey : y = a + d * r := by
    have := Nat.mod_add_div y r
    rw [ha, hd, Nat.mul_comm] at this
    omega
  subst ey
  unfold radixF outF
  rw [ec, cols_at (fun a => K1 s (gathT (midF R (r * c) r s K0 x) (a * c) 1)) r c r a d _ ha' (Nat.le_refl _) hd', h1 _ _ hd']
  unfold dft
  rw [sumF_grid r c]
  refine sumF_congr fun b hb => ?_
  -- the middle
  have em : h (gathT (midF R (r * c) r s K0 x) (a * c) 1 b) = (sumF r fun i => h (x (b + i * c)) * rt (s * ((a : Int) * i)) r) * rt (s * ((a : Int) * b)) (r * c) := by
    have e1 : (a * c + b * 1) / c = a := by rw [Nat.mul_one, Nat.add_comm, Nat.add_mul_div_right _ _ c1, Nat.div_eq_of_lt hb, Nat.zero_add]
    have e2 : (a * c + b * 1) % c = b := by rw [Nat.mul_one, Nat.add_comm, Nat.add_mul_mod_self_right, Nat.mod_eq_of_lt hb]
    have e3 : a * c + b * 1 = b + a * c := by omega
    show h (midF R (r * c) r s K0 x (a * c + b * 1)) = _
    unfold midF twistF
    rw [ec, e1, e2, e3, H.mul]
    have e4 : mid0F R c r s K0 x c (b + a * c) = K0 s (gathT x b c) a := cols_at (fun b => K0 s (gathT x b c)) c r c b a _ hb (Nat.le_refl _) ha'
    rw [e4, h0 _ _ ha', H.root _ _ n1 hn, unit_one hs, Int.mul_assoc]
    rfl
  show h (gathT (midF R (r * c) r s K0 x) (a * c) 1 b) * rt (s * ((d : Int) * b)) c = sumF r fun i => h (x (b + i * c)) * rt (s * (((a + d * r : Nat) : Int) * ((b + i * c : Nat) : Int))) (r * c)
  rw [em, ← sumF_right, ← sumF_right]
  refine sumF_congr fun i hi => ?_
  have e5 : s * (((a + d * r : Nat) : Int) * ((b + i * c : Nat) : Int)) = s * ((a : Int) * b) + ((c : Int) * (s * ((a : Int) * i)) + ((r : Int) * (s * ((d : Int) * b)) + ((r * c : Nat) : Int) * (s * ((d : Int) * i)))) := by
    rw [Int.natCast_add, Int.natCast_add, Int.natCast_mul, Int.natCast_mul, Int.natCast_mul]
    grind
  have e6 : rt ((c : Int) * (s * ((a : Int) * i))) (r * c) = rt (s * ((a : Int) * i)) r := by
    rw [Nat.mul_comm r c]; exact H.rts.scale c r _ c1 r1 (by rw [Nat.mul_comm]; exact hn)
  have e7 := H.rts.scale r c (s * ((d : Int) * b)) r1 c1 hn
  have e8 := H.rts.full (r * c) (s * ((d : Int) * i)) n1 hn
  rw [e5, H.rts.add _ _ _ n1 hn, H.rts.add _ _ _ n1 hn, H.rts.add _ _ _ n1 hn, e6, e7, e8]
  grind
end
end Go.Proofs.Yteaimnemobnknaa
/- The split radix and the convolution over remainders: plain. -/
set_option linter.unusedSimpArgs false
set_option linter.unusedVariables false
namespace Go.Proofs.Yteaimnemobnknaa

theorem fold4 {T : Type} (Q : Nat) (V : Nat → Nat → T) (M : Nat) (hM : M ≤ Q) (g : Nat → T) (u k0 : Nat) (hu : u < 4) (hk : k0 < M) :
    foldT M (fun h k => updT (updT (updT (updT h k (V 0 k)) (k + 2 * Q) (V 2 k)) (k + Q) (V 1 k)) (k + 3 * Q) (V 3 k)) g (k0 + u * Q) = V u k0 := by
  induction M with
  | zero => omega
  | succ M ih =>
    rw [foldT_succ]
    have hu4 : u = 0 ∨ u = 1 ∨ u = 2 ∨ u = 3 := by omega
    by_cases e : k0 = M
    · subst e
      rcases hu4 with rfl | rfl | rfl | rfl
      · show (if k0 + 0 * Q = k0 + 3 * Q then _ else if k0 + 0 * Q = k0 + Q then _ else if k0 + 0 * Q = k0 + 2 * Q then _ else if k0 + 0 * Q = k0 then _ else _) = _
        rw [if_neg (by omega), if_neg (by omega), if_neg (by omega), if_pos (by omega)]
      · show (if k0 + 1 * Q = k0 + 3 * Q then _ else if k0 + 1 * Q = k0 + Q then _ else if k0 + 1 * Q = k0 + 2 * Q then _ else if k0 + 1 * Q = k0 then _ else _) = _
        rw [if_neg (by omega), if_pos (by omega)]
      · show (if k0 + 2 * Q = k0 + 3 * Q then _ else if k0 + 2 * Q = k0 + Q then _ else if k0 + 2 * Q = k0 + 2 * Q then _ else if k0 + 2 * Q = k0 then _ else _) = _
        rw [if_neg (by omega), if_neg (by omega), if_pos (by omega)]
      · show (if k0 + 3 * Q = k0 + 3 * Q then _ else if k0 + 3 * Q = k0 + Q then _ else if k0 + 3 * Q = k0 + 2 * Q then _ else if k0 + 3 * Q = k0 then _ else _) = _
        rw [if_pos (by omega)]
    · have ih' := ih (by omega) (by omega)
      rw [← ih']
      rcases hu4 with rfl | rfl | rfl | rfl
      · show (if k0 + 0 * Q = M + 3 * Q then _ else if k0 + 0 * Q = M + Q then _ else if k0 + 0 * Q = M + 2 * Q then _ else if k0 + 0 * Q = M then _ else _) = _
        rw [if_neg (by omega), if_neg (by omega), if_neg (by omega), if_neg (by omega)]
      · show (if k0 + 1 * Q = M + 3 * Q then _ else if k0 + 1 * Q = M + Q then _ else if k0 + 1 * Q = M + 2 * Q then _ else if k0 + 1 * Q = M then _ else _) = _
        rw [if_neg (by omega), if_neg (by omega), if_neg (by omega), if_neg (by omega)]
      · show (if k0 + 2 * Q = M + 3 * Q then _ else if k0 + 2 * Q = M + Q then _ else if k0 + 2 * Q = M + 2 * Q then _ else if k0 + 2 * Q = M then _ else _) = _
        rw [if_neg (by omega), if_neg (by omega), if_neg (by omega), if_neg (by omega)]
      · show (if k0 + 3 * Q = M + 3 * Q then _ else if k0 + 3 * Q = M + Q then _ else if k0 + 3 * Q = M + 2 * Q then _ else if k0 + 3 * Q = M then _ else _) = _
        rw [if_neg (by omega), if_neg (by omega), if_neg (by omega), if_neg (by omega)]

section
variable {q : Nat} [NeZero q] {N : Nat} {rt : Int → Nat → Fin q} {R : Rg Int} {h : Int → Fin q}

theorem sumF_turn (m : Nat) (g : Nat → Fin q) : sumF (m + 1) (fun t => if t = 0 then g m else g (t - 1)) = sumF (m + 1) g := by
  have e : sumF (m + 1) (fun t => if t = 0 then g m else g (t - 1)) = g m + sumF m g := by
    rw [Nat.add_comm, sumF_app]
    congr 1
    · show 0 + g m = _; grind
    · exact sumF_congr fun k _ => by rw [if_neg (by omega)]; congr 1; omega
  rw [e, sumF_succ]; grind

/-- The sum in four parts. -/
theorem sum_four (Q : Nat) (hQ : 1 ≤ Q) (f : Nat → Fin q) : sumF (4 * Q) f = sumF (2 * Q) (fun t => f (2 * t)) + sumF Q (fun t => f (4 * t + 1)) + sumF Q (fun t => f (if t = 0 then 4 * Q - 1 else 4 * t - 1)) := by
  have L4 : sumF (4 * Q) f = sumF 4 (fun b => sumF Q (fun i => f (b + i * 4))) := by
    rw [Nat.mul_comm 4]; exact sumF_grid Q 4 f
  have L2 : sumF (2 * Q) (fun t => f (2 * t)) = sumF 2 (fun b => sumF Q (fun i => f (2 * (b + i * 2)))) := by
    rw [Nat.mul_comm 2 Q]; exact sumF_grid Q 2 (fun t => f (2 * t))
  rw [L4, L2]
  have e4 : ∀ g : Nat → Fin q, sumF 4 g = g 0 + g 1 + g 2 + g 3 := fun g => by
    show 0 + g 0 + g 1 + g 2 + g 3 = _; grind
  have e2 : ∀ g : Nat → Fin q, sumF 2 g = g 0 + g 1 := fun g => by
    show 0 + g 0 + g 1 = _; grind
  rw [e4, e2]
  have a0 : sumF Q (fun i => f (2 * (0 + i * 2))) = sumF Q (fun i => f (0 + i * 4)) := sumF_congr fun i _ => by congr 1; omega
  have a1 : sumF Q (fun i => f (2 * (1 + i * 2))) = sumF Q (fun i => f (2 + i * 4)) := sumF_congr fun i _ => by congr 1; omega
  have a2 : sumF Q (fun t => f (4 * t + 1)) = sumF Q (fun i => f (1 + i * 4)) := sumF_congr fun i _ => by congr 1; omega
  have a3 : sumF Q (fun t => f (if t = 0 then 4 * Q - 1 else 4 * t - 1)) = sumF Q (fun i => f (3 + i * 4)) := by
    obtain ⟨m, rfl⟩ : ∃ m, Q = m + 1 := ⟨Q - 1, by omega⟩
    rw [← sumF_turn m (fun i => f (3 + i * 4))]
    refine sumF_congr fun t _ => ?_
    by_cases e : t = 0
    · rw [if_pos e, if_pos e]; congr 1; omega
    · rw [if_neg e, if_neg e]; congr 1; omega
  rw [a0, a1, a2, a3]
  grind

theorem Rts.half (H : Rts N rt) (h2 : 2 ∣ N) {s : Int} (hs : s = 1 ∨ s = -1) : rt s 2 = -1 := by
  have o := H.orth 2 1 (by omega) h2 (by omega)
  have z := H.zero 2 (by omega) h2
  have o2 : rt (1 * (0 : Nat)) 2 + rt (1 * (1 : Nat)) 2 = 0 := by
    rw [← o]
    show _ = 0 + _ + _
    grind
  have e1 : rt 1 2 = -1 := by
    have : rt (1 * ((0 : Nat) : Int)) 2 = 1 := z
    rw [this] at o2
    have e : (1 * ((1 : Nat) : Int)) = 1 := rfl
    rw [e] at o2
    grind
  rcases hs with rfl | rfl
  · exact e1
  · have := H.mod (n := 2) (by omega) h2 1 (-1)
    rw [← e1, ← this]
    rfl

theorem split_step (H : Hom R N rt h) {Q : Nat} (hQ : 1 ≤ Q) (hn : 4 * Q ∣ N) {s : Int} (hs : s = 1 ∨ s = -1) (x e z y : Nat → Int) (g : Nat → Int)
    (he : ∀ j, j < 2 * Q → h (e j) = dft rt (2 * Q) s (fun k => h (x (2 * k))) j)
    (hz : ∀ j, j < Q → h (z j) = dft rt Q s (fun k => h (x (4 * k + 1))) j)
    (hy : ∀ j, j < Q → h (y j) = dft rt Q s (fun k => h (x (if k = 0 then 4 * Q - 1 else 4 * k - 1))) j)
    (j : Nat) (hj : j < 4 * Q) : h (foldT Q (splitR R (4 * Q) s e z y) g j) = dft rt (4 * Q) s (fun k => h (x k)) j := by
  have n1 : 1 ≤ 4 * Q := by omega
  have hQd : Q ∣ N := Nat.dvd_trans (Nat.dvd_mul_left _ _) hn
  have h2Q : 2 * Q ∣ N := Nat.dvd_trans ⟨2, by omega⟩ hn
  have h2 : 2 ∣ N := Nat.dvd_trans ⟨2 * Q, by omega⟩ hn
  have eQ : 4 * Q / 4 = Q := Nat.mul_div_cancel_left _ (by omega)
  obtain ⟨k, hk⟩ : ∃ k, j % Q = k := ⟨_, rfl⟩
  obtain ⟨u, hu⟩ : ∃ u, j / Q = u := ⟨_, rfl⟩
  have hk' : k < Q := by rw [← hk]; exact Nat.mod_lt _ hQ
  have hu' : u < 4 := by rw [← hu]; exact Nat.div_lt_of_lt_mul (by rw [Nat.mul_comm]; exact hj)
  have ej : j = k + u * Q := by
    have := Nat.mod_add_div j Q
    rw [hk, hu, Nat.mul_comm] at this
    omega
  subst ej
  let ii := R.root (s * ((Q : Nat) : Int)) ((4 * Q : Nat) : Int)
  let uu := fun k : Nat => R.mul (R.root (s * (k : Int)) ((4 * Q : Nat) : Int)) (z k)
  let vv := fun k : Nat => R.mul (R.root (s * (-(k : Int))) ((4 * Q : Nat) : Int)) (y k)
  let V : Nat → Nat → Int := fun w k => match w with
    | 0 => R.add (e k) (R.add (uu k) (vv k))
    | 1 => R.add (e (k + Q)) (R.mul ii (R.sub (uu k) (vv k)))
    | 2 => R.sub (e k) (R.add (uu k) (vv k))
    | _ => R.sub (e (k + Q)) (R.mul ii (R.sub (uu k) (vv k)))
  have eV : foldT Q (splitR R (4 * Q) s e z y) g (k + u * Q) = V u k := by
    have : splitR R (4 * Q) s e z y = fun h k => updT (updT (updT (updT h k (V 0 k)) (k + 2 * Q) (V 2 k)) (k + Q) (V 1 k)) (k + 3 * Q) (V 3 k) := by
      funext h k
      unfold splitR
      rw [eQ]
      rfl
    rw [this]
    exact fold4 Q V Q (Nat.le_refl _) g u k hu' hk'
  rw [eV]
  -- what the roots are
  have hi : h ii = rt (s * (Q : Int)) (4 * Q) := H.root _ _ n1 hn
  have huu : h (uu k) = rt (s * (k : Int)) (4 * Q) * dft rt Q s (fun k => h (x (4 * k + 1))) k := by
    show h (R.mul _ _) = _
    rw [H.mul, H.root _ _ n1 hn, hz k hk']
  have hvv : h (vv k) = rt (s * (-(k : Int))) (4 * Q) * dft rt Q s (fun k => h (x (if k = 0 then 4 * Q - 1 else 4 * k - 1))) k := by
    show h (R.mul _ _) = _
    rw [H.mul, H.root _ _ n1 hn, hy k hk']
  -- the sum in four parts
  have hd : dft rt (4 * Q) s (fun k => h (x k)) (k + u * Q)
      = dft rt (2 * Q) s (fun k => h (x (2 * k))) (k + u * Q) + rt (s * ((k + u * Q : Nat) : Int)) (4 * Q) * dft rt Q s (fun k => h (x (4 * k + 1))) k
        + rt (-(s * ((k + u * Q : Nat) : Int))) (4 * Q) * dft rt Q s (fun k => h (x (if k = 0 then 4 * Q - 1 else 4 * k - 1))) k := by
    unfold dft
    rw [sum_four Q hQ, ← sumF_left, ← sumF_left]
    obtain ⟨J, hJ⟩ : ∃ J, k + u * Q = J := ⟨_, rfl⟩
    have hJk : ∀ t : Nat, rt (s * ((J : Int) * t)) Q = rt (s * ((k : Int) * t)) Q := fun t => by
      rw [← Int.natCast_mul, ← Int.natCast_mul]
      refine H.rts.red hQ hQd s _ _ ?_
      rw [← hJ, Nat.add_mul, Nat.mul_right_comm, Nat.add_mul_mod_self_right]
    rw [hJ]
    congr 1
    · congr 1
      · refine sumF_congr fun t _ => ?_
        congr 1
        have e5 := H.rts.scale 2 (2 * Q) (s * ((J : Int) * t)) (by omega) (by omega) (by rw [show 2 * (2 * Q) = 4 * Q from by omega]; exact hn)
        rw [show 2 * (2 * Q) = 4 * Q from by omega] at e5
        rw [← e5]
        congr 1
        rw [Int.natCast_mul]; grind
      · refine sumF_congr fun t _ => ?_
        have e5 := H.rts.scale 4 Q (s * ((J : Int) * t)) (by omega) hQ hn
        have e6 : s * ((J : Int) * ((4 * t + 1 : Nat) : Int)) = s * (J : Int) + ((4 : Nat) : Int) * (s * ((J : Int) * t)) := by
          rw [Int.natCast_add, Int.natCast_mul]; grind
        rw [e6, H.rts.add _ _ _ n1 hn, e5, hJk]
        grind
    · refine sumF_congr fun t _ => ?_
      have e5 := H.rts.scale 4 Q (s * ((J : Int) * t)) (by omega) hQ hn
      have e7 : rt (s * ((J : Int) * ((if t = 0 then 4 * Q - 1 else 4 * t - 1 : Nat) : Int))) (4 * Q) = rt (-(s * (J : Int))) (4 * Q) * rt (((4 : Nat) : Int) * (s * ((J : Int) * t))) (4 * Q) := by
        rw [← H.rts.add _ _ _ n1 hn]
        by_cases e : t = 0
        · rw [if_pos e]
          subst e
          have : s * ((J : Int) * ((4 * Q - 1 : Nat) : Int)) = -(s * (J : Int)) + ((4 : Nat) : Int) * (s * ((J : Int) * ((0 : Nat) : Int))) + ((4 * Q : Nat) : Int) * (s * J) := by
            rw [Int.natCast_sub (by omega), Int.natCast_mul]; grind
          rw [this, H.rts.mod n1 hn]
        · rw [if_neg e]
          congr 1
          rw [Int.natCast_sub (by omega), Int.natCast_mul]; grind
      rw [e7, e5, hJk]
      grind
  rw [hd]
  -- the even part goes round
  have hev : ∀ a b : Nat, a % (2 * Q) = b % (2 * Q) → dft rt (2 * Q) s (fun k => h (x (2 * k))) a = dft rt (2 * Q) s (fun k => h (x (2 * k))) b := fun a b hab => by
    unfold dft
    refine sumF_congr fun t _ => ?_
    congr 1
    rw [← Int.natCast_mul, ← Int.natCast_mul]
    refine H.rts.red (by omega) h2Q s _ _ ?_
    rw [Nat.mul_mod, hab, ← Nat.mul_mod]
  -- i
  have i2 : rt (s * (Q : Int)) (4 * Q) * rt (s * (Q : Int)) (4 * Q) = -1 := by
    rw [← H.rts.add _ _ _ n1 hn, ← H.rts.half h2 hs]
    have := H.rts.scale (2 * Q) 2 s (by omega) (by omega) (by rw [show 2 * Q * 2 = 4 * Q from by omega]; exact hn)
    rw [show 2 * Q * 2 = 4 * Q from by omega] at this
    rw [← this]
    congr 1
    rw [Int.natCast_mul]; grind
  have i3 : rt (-(s * (Q : Int))) (4 * Q) = -rt (s * (Q : Int)) (4 * Q) := by
    have e1 : rt (-(s * (Q : Int))) (4 * Q) * rt (s * (Q : Int)) (4 * Q) = 1 := by
      rw [← H.rts.add _ _ _ n1 hn, ← H.rts.zero _ n1 hn]
      congr 1; omega
    grind
  have eneg : s * (-(k : Int)) = -(s * (k : Int)) := by grind
  have hu4 : u = 0 ∨ u = 1 ∨ u = 2 ∨ u = 3 := by omega
  have hadd : ∀ w : Nat, rt (s * ((k + w * Q : Nat) : Int)) (4 * Q) = rt (s * (k : Int)) (4 * Q) * rt (s * ((w : Int) * Q)) (4 * Q) := fun w => by
    rw [← H.rts.add _ _ _ n1 hn]
    congr 1
    rw [Int.natCast_add, Int.natCast_mul]; grind
  have hsub : ∀ w : Nat, rt (-(s * ((k + w * Q : Nat) : Int))) (4 * Q) = rt (-(s * (k : Int))) (4 * Q) * rt (-(s * ((w : Int) * Q))) (4 * Q) := fun w => by
    rw [← H.rts.add _ _ _ n1 hn]
    congr 1
    rw [Int.natCast_add, Int.natCast_mul]; grind
  have p2 : rt (s * (((2 : Nat) : Int) * Q)) (4 * Q) = rt (s * (Q : Int)) (4 * Q) * rt (s * (Q : Int)) (4 * Q) := by
    rw [← H.rts.add _ _ _ n1 hn]; congr 1; grind
  have p3 : rt (s * (((3 : Nat) : Int) * Q)) (4 * Q) = rt (s * (Q : Int)) (4 * Q) * (rt (s * (Q : Int)) (4 * Q) * rt (s * (Q : Int)) (4 * Q)) := by
    rw [← H.rts.add _ _ _ n1 hn, ← H.rts.add _ _ _ n1 hn]; congr 1; grind
  have m2 : rt (-(s * (((2 : Nat) : Int) * Q))) (4 * Q) = rt (-(s * (Q : Int))) (4 * Q) * rt (-(s * (Q : Int))) (4 * Q) := by
    rw [← H.rts.add _ _ _ n1 hn]; congr 1; grind
  have m3 : rt (-(s * (((3 : Nat) : Int) * Q))) (4 * Q) = rt (-(s * (Q : Int))) (4 * Q) * (rt (-(s * (Q : Int))) (4 * Q) * rt (-(s * (Q : Int))) (4 * Q)) := by
    rw [← H.rts.add _ _ _ n1 hn, ← H.rts.add _ _ _ n1 hn]; congr 1; grind
  rw [eneg] at hvv
  generalize dft rt Q s (fun k => h (x (4 * k + 1))) k = zz at *
  generalize dft rt Q s (fun k => h (x (if k = 0 then 4 * Q - 1 else 4 * k - 1))) k = yy at *
  rcases hu4 with rfl | rfl | rfl | rfl
  · show h (R.add (e k) (R.add (uu k) (vv k))) = _
    rw [H.add, H.add, huu, hvv, he k (by omega), show k + 0 * Q = k from by omega]
    grind
  · show h (R.add (e (k + Q)) (R.mul ii (R.sub (uu k) (vv k)))) = _
    have a1 : s * (((1 : Nat) : Int) * Q) = s * (Q : Int) := by grind
    rw [H.add, H.mul, H.sub, huu, hvv, hi, he (k + Q) (by omega), hadd, hsub, a1, i3, Nat.one_mul]
    grind
  · show h (R.sub (e k) (R.add (uu k) (vv k))) = _
    rw [H.sub, H.add, huu, hvv, he k (by omega), hev (k + 2 * Q) k (by rw [Nat.add_mod_right]), hadd, hsub, p2, m2, i3, i2]
    grind
  · show h (R.sub (e (k + Q)) (R.mul ii (R.sub (uu k) (vv k)))) = _
    rw [H.sub, H.mul, H.sub, huu, hvv, hi, he (k + Q) (by omega), hev (k + 3 * Q) (k + Q) (by rw [show k + 3 * Q = k + Q + 2 * Q from by omega, Nat.add_mod_right]), hadd, hsub, p3, m3, i3, i2]
    grind
end
end Go.Proofs.Yteaimnemobnknaa
/- The circular convolution by transforms, Rader's way, Bluestein's way: plain. -/
set_option linter.unusedSimpArgs false
set_option linter.unusedVariables false
namespace Go.Proofs.Yteaimnemobnknaa

/-- An injective map of the numbers below n into themselves meets all. -/
theorem surj_of {n : Nat} {s : Nat → Nat} (hm : ∀ k, k < n → s k < n) (hi : ∀ k l, k < n → l < n → s k = s l → k = l) {y : Nat} (hy : y < n) : ∃ k, k < n ∧ s k = y := by
  induction n generalizing s y with
  | zero => omega
  | succ n ih =>
    -- where n is met
    have hn : ∃ j, j < n + 1 ∧ s j = n := by
      apply Classical.byContradiction
      intro hno
      exact sumF_perm.pigeon n s (fun k hk => by
        have := hm k hk
        have : s k ≠ n := fun e => hno ⟨k, hk, e⟩
        omega) hi
    obtain ⟨j, hj, hjn⟩ := hn
    by_cases e : y = n
    · exact ⟨j, hj, by omega⟩
    · obtain ⟨k, hk, hky⟩ := ih (s := fun k => if k = j then s n else s k) (y := y)
        (fun k hk => by
          show (if k = j then s n else s k) < n
          by_cases e : k = j
          · rw [if_pos e]
            have := hm n (by omega)
            have : s n ≠ n := fun h => by have := hi n j (by omega) hj (by omega); omega
            omega
          · rw [if_neg e]
            have := hm k (by omega)
            have : s k ≠ n := fun h => e (hi k j (by omega) hj (by omega))
            omega)
        (fun k l hk hl h => by
          by_cases e : k = j
          · by_cases e2 : l = j
            · omega
            · rw [if_pos e, if_neg e2] at h
              have := hi n l (by omega) (by omega) h
              omega
          · by_cases e2 : l = j
            · rw [if_neg e, if_pos e2] at h
              have := hi k n (by omega) (by omega) h
              omega
            · rw [if_neg e, if_neg e2] at h
              exact hi k l (by omega) (by omega) h)
        (by omega)
      by_cases e3 : k = j
      · exact ⟨n, by omega, by rw [← hky, if_pos e3]⟩
      · exact ⟨k, by omega, by rw [← hky, if_neg e3]⟩

section
variable {q : Nat} [NeZero q] {N : Nat} {rt : Int → Nat → Fin q} {R : Rg Int} {h : Int → Fin q}

/-- The circular convolution, as it is defined. -/
def cyc (m : Nat) (a b : Nat → Fin q) (k : Nat) : Fin q := sumF m fun i => a i * b ((k + m - i) % m)

theorem sumF_pick (n j : Nat) (f : Nat → Fin q) (hj : j < n) (h0 : ∀ k, k < n → k ≠ j → f k = 0) : sumF n f = f j := by
  rw [← sumF_one n j f hj]
  refine sumF_congr fun k hk => ?_
  by_cases e : k = j
  · rw [if_pos e]
  · rw [if_neg e, h0 k hk e]

theorem Rts.orth' (H : Rts N rt) {m : Nat} (m1 : 1 ≤ m) (hm : m ∣ N) (j : Int) : sumF m (fun k => rt (j * k) m) = if (m : Int) ∣ j then sumF m (fun _ => 1) else 0 := by
  by_cases e : (m : Int) ∣ j
  · rw [if_pos e]
    obtain ⟨t, rfl⟩ := e
    refine sumF_congr fun k _ => ?_
    rw [Int.mul_assoc]
    exact H.full m _ m1 hm
  · rw [if_neg e]; exact H.orth m j m1 hm e

theorem conv_cyc (H : Hom R N rt h) {m : Nat} (m1 : 1 ≤ m) (hm : m ∣ N) (K : Tr Int)
    (hK : ∀ s, s = 1 ∨ s = -1 → ∀ x j, j < m → h (K s x j) = dft rt m s (fun k => h (x k)) j)
    (a b : Nat → Int) (k : Nat) (hk : k < m) : h (convF R m K a b k) = cyc m (fun i => h (a i)) (fun i => h (b i)) k := by
  have hsum : h (K (-1) (timesF R (K 1 a) (K 1 b)) k) = cyc m (fun i => h (a i)) (fun i => h (b i)) k * h m := by
    rw [hK (-1) (.inr rfl) _ _ hk]
    unfold dft cyc
    rw [H.many m, ← sumF_right]
    -- each product of sums is a double sum
    have e1 : ∀ j, j < m → h (timesF R (K 1 a) (K 1 b) j) * rt (-1 * ((k : Int) * j)) m = sumF m fun i => sumF m fun l => h (a i) * h (b l) * rt (((i : Int) + l - k) * j) m := fun j hj => by
      unfold timesF
      rw [H.mul, hK 1 (.inl rfl) _ _ hj, hK 1 (.inl rfl) _ _ hj]
      unfold dft
      rw [Fin.mul_assoc, ← sumF_right]
      refine sumF_congr fun i _ => ?_
      rw [← sumF_right, ← sumF_left]
      refine sumF_congr fun l _ => ?_
      have e2 : (((i : Int) + l - k) * j) = (1 * ((j : Int) * i)) + ((1 * ((j : Int) * l)) + (-1 * ((k : Int) * j))) := by grind
      rw [e2, H.rts.add _ _ _ m1 hm, H.rts.add _ _ _ m1 hm]
      grind
    rw [sumF_congr e1, sumF_comm]
    refine sumF_congr fun i hi => ?_
    rw [sumF_comm]
    have e3 : ∀ l, l < m → sumF m (fun j => h (a i) * h (b l) * rt (((i : Int) + l - k) * j) m) = h (a i) * h (b l) * (if (m : Int) ∣ ((i : Int) + l - k) then sumF m (fun _ => 1) else 0) := fun l _ => by
      rw [sumF_left, H.rts.orth' m1 hm]
    rw [sumF_congr e3]
    -- just one l goes
    obtain ⟨l0, hl0⟩ : ∃ l0, (k + m - i) % m = l0 := ⟨_, rfl⟩
    have hl0' : l0 < m := by rw [← hl0]; exact Nat.mod_lt _ m1
    have hcase : (i ≤ k ∧ l0 = k - i) ∨ (k < i ∧ l0 = k + m - i) := by
      by_cases e : i ≤ k
      · left
        refine ⟨e, ?_⟩
        rw [← hl0, show k + m - i = (k - i) + m from by omega, Nat.add_mod_right, Nat.mod_eq_of_lt (by omega)]
      · right
        refine ⟨by omega, ?_⟩
        rw [← hl0, Nat.mod_eq_of_lt (by omega)]
    rw [sumF_pick m l0 _ hl0' fun l hl hne => ?_]
    · rw [if_pos]
      · rw [hl0]
      · rcases hcase with ⟨e, rfl⟩ | ⟨e, rfl⟩
        · exact ⟨0, by omega⟩
        · exact ⟨1, by omega⟩
    · rw [if_neg]
      · grind
      · rintro ⟨t, ht⟩
        have t1 : -2 < t := by
          apply Classical.byContradiction
          intro hh
          have := Int.mul_le_mul_of_nonneg_left (show t ≤ -2 by omega) (show (0 : Int) ≤ m by omega)
          omega
        have t2 : t < 2 := by
          apply Classical.byContradiction
          intro hh
          have := Int.mul_le_mul_of_nonneg_left (show 2 ≤ t by omega) (show (0 : Int) ≤ m by omega)
          omega
        have : t = -1 ∨ t = 0 ∨ t = 1 := by omega
        rcases this with rfl | rfl | rfl <;> omega
  have ho := H.over (K (-1) (timesF R (K 1 a) (K 1 b)) k) m m1 hm
  have hi := H.over 1 m m1 hm
  rw [H.one] at hi
  show h (R.over (K (-1) (timesF R (K 1 a) (K 1 b)) k) m) = _
  rw [hsum] at ho
  grind

/-- What Rader's powers are. -/
structure Pws (n : Nat) (pw : Nat → Nat) : Prop where
  pos : ∀ k, k < n - 1 → 1 ≤ pw k
  lt : ∀ k, k < n - 1 → pw k < n
  inj : ∀ k l, k < n - 1 → l < n - 1 → pw k = pw l → k = l
  mul : ∀ k l, k < n - 1 → l < n - 1 → pw ((k + l) % (n - 1)) % n = pw k * pw l % n

theorem rader_dft (H : Hom R N rt h) {n : Nat} (n3 : 3 ≤ n) (hn : n ∣ N) (hm : n - 1 ∣ N) {s : Int} (hs : s = 1 ∨ s = -1) (K : Tr Int)
    (hK : ∀ s, s = 1 ∨ s = -1 → ∀ x j, j < n - 1 → h (K s x j) = dft rt (n - 1) s (fun k => h (x k)) j) {pw : Nat → Nat} (P : Pws n pw)
    (x : Nat → Int) (y : Nat) (hy : y < n) : h (raderF R n pw K s x y) = dft rt n s (fun k => h (x k)) y := by
  obtain ⟨m, rfl⟩ : ∃ m, n = m + 1 := ⟨n - 1, by omega⟩
  have em : m + 1 - 1 = m := rfl
  have hpos := P.pos
  have hlt := P.lt
  have hinj := P.inj
  have hmul := P.mul
  rw [em] at hpos hlt hinj hmul hm hK
  have m1 : 1 ≤ m := by omega
  unfold raderF
  rw [em]
  generalize hc : convF R m K (raderA pw x) (raderB R (m + 1) s pw) = c
  -- places
  have hplace : ∀ k, k < m → ((m - k) % m = if k = 0 then 0 else m - k) := fun k hk => by
    by_cases e : k = 0
    · rw [if_pos e, e, Nat.sub_zero, Nat.mod_self]
    · rw [if_neg e, Nat.mod_eq_of_lt (by omega)]
  have hpl : ∀ k, k < m → (m - k) % m < m := fun k _ => Nat.mod_lt _ m1
  by_cases e0 : y = 0
  · subst e0
    unfold raderO
    rw [em, fold_upd_ne m (fun k => pw ((m - k) % m)) (fun k => R.add (x 0) (c k)) _ 0 fun k hk => by have := hpos _ (hpl k hk); omega]
    show h (sumT R (m + 1) x) = _
    unfold sumT dft
    rw [H.fold]
    refine sumF_congr fun k _ => ?_
    have : s * (((0 : Nat) : Int) * (k : Int)) = 0 := by simp
    rw [this, H.rts.zero _ (by omega) hn]
    grind
  · -- the power that y is
    obtain ⟨t, ht, hty⟩ : ∃ t, t < m ∧ pw t - 1 = y - 1 := surj_of (n := m) (s := fun k => pw k - 1) (y := y - 1) (fun k hk => by have := hlt k hk; have := hpos k hk; omega) (fun k l hk hl e => hinj k l hk hl (by have := hpos k hk; have := hpos l hl; omega)) (by omega)
    have hty : pw t = y := by have := hpos t ht; omega
    obtain ⟨k, hk, hkt⟩ : ∃ k, k < m ∧ (m - k) % m = t := by
      by_cases e : t = 0
      · exact ⟨0, m1, by rw [Nat.sub_zero, Nat.mod_self, e]⟩
      · exact ⟨m - t, by omega, by rw [show m - (m - t) = t from by omega, Nat.mod_eq_of_lt ht]⟩
    have hev : raderO R (m + 1) pw x c m y = R.add (x 0) (c k) := by
      unfold raderO
      rw [em]
      have := fold_upd_at m (fun k => pw ((m - k) % m)) (fun k => R.add (x 0) (c k)) (updT (fun _ => R.zero) 0 (sumT R (m + 1) x)) k hk fun l hl e => by
        have e2 := hinj _ _ (hpl l hl) (hpl k hk) e
        rw [hplace l hl, hplace k hk] at e2
        by_cases a : l = 0
        · by_cases b : k = 0
          · omega
          · rw [if_pos a, if_neg b] at e2; omega
        · by_cases b : k = 0
          · rw [if_neg a, if_pos b] at e2; omega
          · rw [if_neg a, if_neg b] at e2; omega
      rw [hkt, hty] at this
      exact this
    rw [hev, H.add, ← hc, conv_cyc H m1 hm K hK _ _ k hk]
    unfold cyc dft
    have happ : sumF (m + 1) (fun k => h (x k) * rt (s * ((y : Int) * k)) (m + 1)) = sumF 1 (fun k => h (x k) * rt (s * ((y : Int) * k)) (m + 1)) + sumF m (fun k => h (x (1 + k)) * rt (s * ((y : Int) * ((1 + k : Nat) : Int))) (m + 1)) := by
      have := sumF_app 1 m (fun k => h (x k) * rt (s * ((y : Int) * k)) (m + 1))
      rw [← this, Nat.add_comm m 1]
    have z0 : sumF 1 (fun k => h (x k) * rt (s * ((y : Int) * k)) (m + 1)) = h (x 0) := by
      have : s * ((y : Int) * ((0 : Nat) : Int)) = 0 := by simp
      show 0 + h (x 0) * rt (s * ((y : Int) * ((0 : Nat) : Int))) (m + 1) = _
      rw [this, H.rts.zero _ (by omega) hn]
      grind
    rw [happ, z0]
    congr 1
    have hp := sumF_perm m (fun k => pw k - 1) (fun k => h (x (1 + k)) * rt (s * ((y : Int) * ((1 + k : Nat) : Int))) (m + 1)) (fun k hk => by have := hlt k hk; have := hpos k hk; omega) (fun k l hk hl e => hinj k l hk hl (by have := hpos k hk; have := hpos l hl; omega))
    rw [← hp]
    refine sumF_congr fun i hi => ?_
    have e1 : 1 + (pw i - 1) = pw i := by have := hpos i hi; omega
    show h (x (pw i)) * h (R.root (s * ((pw ((m + 1 - 1 - (k + m - i) % m) % (m + 1 - 1)) : Nat) : Int)) ((m + 1 : Nat) : Int)) = h (x (1 + (pw i - 1))) * rt (s * ((y : Int) * ((1 + (pw i - 1) : Nat) : Int))) (m + 1)
    rw [e1, em, H.root _ _ (by omega) hn]
    congr 1
    rw [← Int.natCast_mul]
    refine H.rts.red (by omega) hn s _ _ ?_
    rw [← hty, ← hmul t i ht hi]
    congr 2
    rw [← hkt]
    have hi1 : (k + m - i) % m = if i ≤ k then k - i else k + m - i := by
      by_cases e : i ≤ k
      · rw [if_pos e, show k + m - i = (k - i) + m from by omega, Nat.add_mod_right, Nat.mod_eq_of_lt (by omega)]
      · rw [if_neg e, Nat.mod_eq_of_lt (by omega)]
    rw [hi1, hplace k hk]
    by_cases e : i ≤ k
    · rw [if_pos e]
      by_cases a : k = 0
      · subst a
        rw [if_pos rfl, show i = 0 from by omega]
        simp
      · rw [if_neg a]
        by_cases b : i = k
        · rw [b, show m - k + k = m from by omega, show m - (k - k) = m from by omega]
        · rw [show m - (k - i) = m - k + i from by omega]
    · rw [if_neg e, show m - (k + m - i) = i - k from by omega]
      by_cases a : k = 0
      · rw [if_pos a, a]; simp
      · rw [if_neg a, show m - k + i = (i - k) + m from by omega, Nat.add_mod_right]
end
end Go.Proofs.Yteaimnemobnknaa
/- Bluestein's way over remainders: plain. -/
set_option linter.unusedSimpArgs false
set_option linter.unusedVariables false
namespace Go.Proofs.Yteaimnemobnknaa

section
variable {T : Type} (R : Rg T)
theorem blueB_at (n m : Nat) (s : Int) (hm : 2 * n - 1 ≤ m) (n1 : 1 ≤ n) (M : Nat) (hM : M ≤ n) (k : Nat) (hk : k < M) : blueB R n m s M k = blueD R n s k ∧ blueB R n m s M ((m - k) % m) = blueD R n s k := by
  induction M with
  | zero => omega
  | succ M ih =>
    have e : ∀ y, blueB R n m s (M + 1) y = if y = (m - M) % m then blueD R n s M else if y = M then blueD R n s M else blueB R n m s M y := fun _ => rfl
    have hz : (m - 0) % m = 0 := by rw [Nat.sub_zero, Nat.mod_self]
    have hp : ∀ l, 1 ≤ l → l < m → (m - l) % m = m - l := fun l h1 h2 => Nat.mod_eq_of_lt (by omega)
    rw [e, e]
    by_cases a : k = M
    · subst a
      rw [if_pos rfl, if_pos rfl]
      exact ⟨by by_cases b : k = (m - k) % m
                · rw [if_pos b]
                · rw [if_neg b], rfl⟩
    · obtain ⟨h1, h2⟩ := ih (by omega) (by omega)
      rw [h1, h2]
      rw [hp M (by omega) (by omega), if_neg (by omega), if_neg (by omega)]
      refine ⟨rfl, ?_⟩
      by_cases b : k = 0
      · subst b
        rw [hz, if_neg (by omega), if_neg (by omega)]
      · rw [hp k (by omega) (by omega), if_neg (by omega), if_neg (by omega)]
end

section
variable {q : Nat} [NeZero q] {N : Nat} {rt : Int → Nat → Fin q} {R : Rg Int} {h : Int → Fin q}

theorem sumF_part (n m : Nat) (hnm : n ≤ m) (f : Nat → Fin q) (h0 : ∀ k, n ≤ k → k < m → f k = 0) : sumF m f = sumF n f := by
  obtain ⟨d, rfl⟩ : ∃ d, m = n + d := ⟨m - n, by omega⟩
  rw [sumF_app, sumF_congr (n := d) (g := fun _ => 0) fun k hk => h0 _ (by omega) (by omega), sumF_zero]
  grind

theorem blue_dft (H : Hom R N rt h) {n m : Nat} (n1 : 1 ≤ n) (hn : 2 * n ∣ N) (hm : m ∣ N) (hnm : 2 * n - 1 ≤ m) {s : Int} (hs : s = 1 ∨ s = -1) (K : Tr Int)
    (hK : ∀ s, s = 1 ∨ s = -1 → ∀ x j, j < m → h (K s x j) = dft rt m s (fun k => h (x k)) j)
    (x : Nat → Int) (y : Nat) (hy : y < n) : h (blueF R n m K s x y) = dft rt n s (fun k => h (x k)) y := by
  have m1 : 1 ≤ m := by omega
  have hn' : n ∣ N := Nat.dvd_trans (Nat.dvd_mul_left _ _) hn
  -- the roots
  have hC : ∀ k, h (blueC R n s k) = rt (s * ((k * k : Nat) : Int)) (2 * n) := fun k => by
    show h (R.root _ _) = _
    rw [H.root _ _ (by omega) hn]
    exact H.rts.red (by omega) hn s _ _ (by unfold sqr; rw [Nat.mod_mod])
  have hD : ∀ k, h (blueD R n s k) = rt (-s * ((k * k : Nat) : Int)) (2 * n) := fun k => by
    show h (R.root _ _) = _
    rw [H.root _ _ (by omega) hn]
    have : s * (-((sqr n k : Nat) : Int)) = -s * ((sqr n k : Nat) : Int) := by grind
    rw [this]
    exact H.rts.red (by omega) hn (-s) _ _ (by unfold sqr; rw [Nat.mod_mod])
  unfold blueF timesF
  rw [H.mul, conv_cyc H m1 hm K hK _ _ y (by omega), hC]
  unfold cyc dft
  rw [sumF_part n m (by omega) _ fun k h1 h2 => by
    show h (if k < n then _ else R.zero) * _ = 0
    rw [if_neg (by omega), H.zero]; grind]
  rw [← sumF_right]
  refine sumF_congr fun k hk => ?_
  have hA : h (blueA R n s x n k) = h (x k) * rt (s * ((k * k : Nat) : Int)) (2 * n) := by
    show h (if k < n then _ else R.zero) = _
    rw [if_pos hk, H.mul, hC]
  have hB : h (blueB R n m s n ((y + m - k) % m)) = rt (-s * (((y : Int) - k) * ((y : Int) - k))) (2 * n) := by
    by_cases e : k ≤ y
    · have e1 : (y + m - k) % m = y - k := by rw [show y + m - k = (y - k) + m from by omega, Nat.add_mod_right, Nat.mod_eq_of_lt (by omega)]
      rw [e1, (blueB_at R n m s hnm n1 n (Nat.le_refl _) (y - k) (by omega)).1, hD]
      congr 2
      rw [Int.natCast_mul, Int.natCast_sub e]
    · have e1 : (y + m - k) % m = (m - (k - y)) % m := by rw [show y + m - k = m - (k - y) from by omega]
      rw [e1, (blueB_at R n m s hnm n1 n (Nat.le_refl _) (k - y) (by omega)).2, hD]
      congr 2
      rw [Int.natCast_mul, Int.natCast_sub (by omega)]
      grind
  show h (blueA R n s x n k) * h (blueB R n m s n ((y + m - k) % m)) * rt (s * ((y * y : Nat) : Int)) (2 * n) = h (x k) * rt (s * ((y : Int) * k)) n
  rw [hA, hB]
  have e5 := H.rts.scale 2 n (s * ((y : Int) * k)) (by omega) n1 hn
  have e6 : ((2 : Nat) : Int) * (s * ((y : Int) * k)) = s * ((k * k : Nat) : Int) + (-s * (((y : Int) - k) * ((y : Int) - k)) + s * ((y * y : Nat) : Int)) := by
    rw [Int.natCast_mul, Int.natCast_mul]; grind
  rw [← e5, e6, H.rts.add _ _ _ (by omega) hn, H.rts.add _ _ _ (by omega) hn]
  grind

/-- Split radix of all sizes that are powers of two. -/
theorem split_dft (H : Hom R N rt h) {s : Int} (hs : s = 1 ∨ s = -1) (f : Nat) : ∀ n k, n = 2 ^ k → n ≤ f + 1 → n ∣ N → ∀ (x : Nat → Int) (j : Nat), j < n → h (splitF R f n s x j) = dft rt n s (fun k => h (x k)) j := by
  induction f with
  | zero =>
    intro n k hk hf hn x j hj
    exact direct_dft H (by omega) hn hs x j
  | succ f ih =>
    intro n k hk hf hn x j hj
    by_cases h4 : n < 4
    · show h ((if n < 4 then directF R n s x else _) j) = _
      rw [if_pos h4]
      exact direct_dft H (by omega) hn hs x j
    · show h ((if n < 4 then directF R n s x else _) j) = _
      rw [if_neg h4]
      obtain ⟨t, rfl⟩ : ∃ t, k = t + 2 := ⟨k - 2, by
        have : ¬ k < 2 := fun hk2 => by
          have : k = 0 ∨ k = 1 := by omega
          rcases this with rfl | rfl <;> omega
        omega⟩
      obtain ⟨Q, hQ⟩ : ∃ Q, 2 ^ t = Q := ⟨_, rfl⟩
      have e4 : n = 4 * Q := by rw [hk, ← hQ, Nat.pow_add]; omega
      have hQ1 : 1 ≤ Q := by omega
      subst e4
      have d2 : 4 * Q / 2 = 2 * Q := by omega
      have d4 : 4 * Q / 4 = Q := by omega
      rw [d2, d4]
      refine split_step H hQ1 hn hs x _ _ _ _ (fun j hj => ?_) (fun j hj => ?_) (fun j hj => ?_) j hj
      · rw [ih (2 * Q) (t + 1) (by rw [Nat.pow_succ, hQ, Nat.mul_comm]) (by omega) (Nat.dvd_trans ⟨2, by omega⟩ hn) _ j hj]
        unfold dft gathT
        exact sumF_congr fun i _ => by show h (x (0 + i * 2)) * _ = h (x (2 * i)) * _; rw [show 0 + i * 2 = 2 * i from by omega]
      · rw [ih Q t hQ.symm (by omega) (Nat.dvd_trans (Nat.dvd_mul_left _ _) hn) _ j hj]
        unfold dft gathT
        exact sumF_congr fun i _ => by show h (x (1 + i * 4)) * _ = h (x (4 * i + 1)) * _; rw [show 1 + i * 4 = 4 * i + 1 from by omega]
      · rw [ih Q t hQ.symm (by omega) (Nat.dvd_trans (Nat.dvd_mul_left _ _) hn) _ j hj]
        unfold dft consT gathT
        refine sumF_congr fun i _ => ?_
        show h (if i = 0 then _ else x (3 + (i - 1) * 4)) * _ = h (x (if i = 0 then _ else _)) * _
        by_cases e : i = 0
        · rw [if_pos e, if_pos e]
        · rw [if_neg e, if_neg e, show 3 + (i - 1) * 4 = 4 * i - 1 from by omega]
end
end Go.Proofs.Yteaimnemobnknaa
/- Primes, powers and roots up to 32768, as the program finds them: plain, by the kernel. -/
set_option linter.unusedSimpArgs false
set_option linter.unusedVariables false
namespace Go.Proofs.Yteaimnemobnknaa

/-- The remainder of a power. -/
def pmod (a e m : Nat) : Nat := a ^ e % m
theorem pmod_lt (a e m : Nat) (hm : 1 ≤ m) : pmod a e m < m := Nat.mod_lt _ hm

/-- What a round of the powers keeps. -/
structure PowS (T m e x out : Nat) : Prop where
  eq : out * x ^ e % m = T
theorem PowS.even {T m e x out : Nat} (h : PowS T m (2 * e) x out) : PowS T m e (x * x % m) out := ⟨by
  rw [← h.eq, Nat.pow_mul, Nat.pow_two, Nat.mul_mod, ← Nat.pow_mod, ← Nat.mul_mod]⟩
theorem PowS.odd {T m e x out : Nat} (h : PowS T m (2 * e + 1) x out) : PowS T m e (x * x % m) (out * x % m) := ⟨by
  rw [← h.eq, Nat.pow_succ, Nat.pow_mul, Nat.pow_two, Nat.mul_mod, Nat.mod_mod, ← Nat.pow_mod, ← Nat.mul_mod]
  congr 1
  rw [Nat.mul_assoc, Nat.mul_comm x]⟩
theorem PowS.done {T m x out : Nat} (h : PowS T m 0 x out) (ho : out < m) : out = T := by
  rw [← h.eq, Nat.pow_zero, Nat.mul_one, Nat.mod_eq_of_lt ho]

/-- The same by squares. -/
def pmL : Nat → Nat → Nat → Nat → Nat → Nat
  | 0, _, _, out, _ => out
  | f + 1, e, x, out, m => bif Nat.beq e 0 then out else pmL f (e / 2) (x * x % m) (bif Nat.beq (e % 2) 1 then out * x % m else out) m
def pmB (a e m : Nat) : Nat := pmL 64 e (a % m) (1 % m) m
theorem bif_eq {T : Type} (a b : Nat) (x y : T) : (bif Nat.beq a b then x else y) = if a = b then x else y := by
  by_cases h : a = b
  · rw [if_pos h, h, Nat.beq_refl]; rfl
  · rw [if_neg h, show Nat.beq a b = false from Bool.eq_false_iff.2 (fun e => h (Nat.eq_of_beq_eq_true e))]; rfl
theorem bif_le {T : Type} (a b : Nat) (x y : T) : (bif Nat.ble a b then x else y) = if a ≤ b then x else y := by
  by_cases h : a ≤ b
  · rw [if_pos h, Nat.ble_eq_true_of_le h]; rfl
  · rw [if_neg h, show Nat.ble a b = false from Bool.eq_false_iff.2 (fun e => h (Nat.le_of_ble_eq_true e))]; rfl
theorem pmL_eq {T m : Nat} (m1 : 1 ≤ m) (f : Nat) : ∀ e x out, e < 2 ^ f → out < m → PowS T m e x out → pmL f e x out m = T := by
  induction f with
  | zero =>
    intro e x out he ho h
    obtain rfl : e = 0 := by omega
    exact h.done ho
  | succ f ih =>
    intro e x out he ho h
    show (bif Nat.beq e 0 then out else pmL f (e / 2) (x * x % m) (bif Nat.beq (e % 2) 1 then out * x % m else out) m) = _
    rw [bif_eq, bif_eq]
    by_cases e0 : e = 0
    · rw [if_pos e0]; subst e0; exact h.done ho
    · rw [if_neg e0]
      rcases Nat.mod_two_eq_zero_or_one e with h2 | h2
      · rw [if_neg (by omega)]
        exact ih _ _ _ (by rw [Nat.pow_succ] at he; omega) ho (PowS.even (by rw [show 2 * (e / 2) = e from by omega]; exact h))
      · rw [if_pos h2]
        exact ih _ _ _ (by rw [Nat.pow_succ] at he; omega) (Nat.mod_lt _ m1) (PowS.odd (by rw [show 2 * (e / 2) + 1 = e from by omega]; exact h))
theorem pmB_eq (a e m : Nat) (m1 : 1 ≤ m) (he : e < 2 ^ 64) : pmB a e m = pmod a e m := by
  refine pmL_eq m1 64 _ _ _ he (Nat.mod_lt _ m1) ⟨?_⟩
  unfold pmod
  rw [Nat.mod_mul_mod, Nat.one_mul, ← Nat.pow_mod]

/-- The odd part. -/
def oddL : Nat → Nat → Nat
  | 0, d => d
  | f + 1, d => bif Nat.beq (d % 2) 0 then oddL f (d / 2) else d
def strL : Nat → Nat → Nat → Nat → Bool
  | 0, _, _, _ => false
  | f + 1, d, x, n => bif Nat.ble (n - 1) d then false else (bif Nat.beq x (n - 1) then true else strL f (d * 2) (x * x % n) n)
def strongB (n b : Nat) : Bool :=
  bif Nat.beq (pmB b (oddL 64 (n - 1)) n) 1 then true else strL 64 (oddL 64 (n - 1)) (pmB b (oddL 64 (n - 1)) n) n
def basesL : List Nat := [2, 3, 5, 7, 11, 13, 17, 19, 23, 29, 31, 37]
/-- What the first loop of Is finds. -/
def divL (n : Nat) : List Nat → Option Bool
  | [] => none
  | b :: l => bif Nat.beq (n % b) 0 then some (Nat.beq n b) else divL n l
def allS (n : Nat) : List Nat → Bool
  | [] => true
  | b :: l => bif strongB n b then allS n l else false
def isB (n : Nat) : Bool := bif Nat.ble n 1 then false else match divL n basesL with | some r => r | none => allS n basesL

/-- By trying all divisors. -/
def priL : Nat → Nat → Nat → Bool
  | 0, _, _ => true
  | f + 1, d, n => bif Nat.ble d (n / d) then (bif Nat.beq (n % d) 0 then false else priL f (d + 1) n) else true
def primeB (n : Nat) : Bool := bif Nat.ble n 1 then false else priL n 2 n

/-- The prime factors, as the program finds them. -/
def stripL : Nat → Nat → Nat → Nat
  | 0, n, _ => n
  | f + 1, n, p => bif Nat.beq (n % p) 0 then stripL f (n / p) p else n
def facL : Nat → Nat → Nat → List Nat
  | 0, _, _ => []
  | f + 1, n, p => bif Nat.ble n 1 then [] else
      bif Nat.ble (p * p) n then (bif Nat.beq (n % p) 0 then p :: facL f (stripL 64 n p) (p + 1) else facL f n (p + 1)) else [n]
/-- The order: a power that leaves 1 is made as low as can be. -/
def ordD : Nat → Nat → Nat → Nat → Nat → Nat
  | 0, _, _, e, _ => e
  | f + 1, a, n, e, p => bif Nat.beq (e % p) 0 then (bif Nat.beq (pmB a (e / p) n) (pmB 1 1 n) then ordD f a n (e / p) p else e) else e
def ordL (a n : Nat) : List Nat → Nat → Nat
  | [], e => e
  | p :: l, e => ordL a n l (ordD 64 a n e p)
def ordB (a n e : Nat) : Nat := ordL a n (facL e e 2) e
def rooL : Nat → Nat → Nat → Nat
  | 0, g, _ => g
  | f + 1, g, p => bif Nat.beq (ordB g p (p - 1)) (p - 1) then g else rooL f (g + 1) p
/-- The least root of a prime. -/
def rootB (p : Nat) : Nat := rooL 200 1 p

/-- A law of all numbers below a power of two. -/
def allR (P : Nat → Bool) : Nat → Nat → Bool
  | 0, lo => P lo
  | d + 1, lo => bif allR P d lo then allR P d (lo + 2 ^ d) else false
theorem allR_at {P : Nat → Bool} (d : Nat) : ∀ lo n, allR P d lo = true → lo ≤ n → n < lo + 2 ^ d → P n = true := by
  induction d with
  | zero =>
    intro lo n h h1 h2
    obtain rfl : n = lo := by omega
    exact h
  | succ d ih =>
    intro lo n h h1 h2
    have h3 : (bif allR P d lo then allR P d (lo + 2 ^ d) else false) = true := h
    by_cases e : allR P d lo = true
    · rw [e] at h3
      by_cases h4 : n < lo + 2 ^ d
      · exact ih lo n e h1 h4
      · exact ih (lo + 2 ^ d) n h3 (by omega) (by rw [Nat.pow_succ] at h2; omega)
    · rw [Bool.eq_false_iff.2 e] at h3
      cases h3

def sameB (n : Nat) : Bool := bif primeB n then isB n else !isB n
/-- A prime has a root that the program finds. -/
def rootOk (n : Nat) : Bool := bif primeB n then (bif Nat.ble n 2 then true else (fun g => bif Nat.beq (ordB g n (n - 1)) (n - 1) then (bif Nat.beq (pmB g (n - 1) n) 1 then Nat.ble g 199 else false) else false) (rootB n)) else true

end Go.Proofs.Yteaimnemobnknaa
/- Remainders by a prime: what leaves 1 by a power; sums of powers of an element of a known order. Plain. -/
set_option linter.unusedSimpArgs false
set_option linter.unusedVariables false
namespace Go.Proofs.Yteaimnemobnknaa
/-- No divisors but 1 and itself. -/
def Prm (n : Nat) : Prop := 2 ≤ n ∧ ∀ d, d ∣ n → d = 1 ∨ d = n
theorem priL_no (f : Nat) : ∀ d n, 1 ≤ d → n + 2 ≤ d + f → priL f d n = true → ∀ e, d ≤ e → 2 ≤ e → e * e ≤ n → ¬ e ∣ n := by
  induction f with
  | zero =>
    intro d n _ hf _ e he h2 hee
    have : e * 1 ≤ e * e := Nat.mul_le_mul_left e (by omega)
    omega
  | succ f ih =>
    intro d n h1 hf h e he h2 hee hd
    rw [priL, bif_le] at h
    by_cases hdd : d ≤ n / d
    · rw [if_pos hdd, bif_eq] at h
      by_cases hm : n % d = 0
      · rw [if_pos hm] at h; cases h
      · rw [if_neg hm] at h
        by_cases e1 : e = d
        · subst e1
          exact hm (Nat.mod_eq_zero_of_dvd hd)
        · exact ih (d + 1) n (by omega) (by omega) h e (by omega) h2 hee hd
    · have h3 : n < d * d := by
        have := (Nat.div_lt_iff_lt_mul (by omega : 0 < d)).1 (by omega : n / d < d)
        exact this
      have h4 : d * d ≤ e * e := Nat.mul_le_mul he he
      omega
theorem prm_of {n : Nat} (h : primeB n = true) : Prm n := by
  unfold primeB at h
  rw [bif_le] at h
  by_cases h1 : n ≤ 1
  · rw [if_pos h1] at h; cases h
  rw [if_neg h1] at h
  refine ⟨by omega, fun d hd => ?_⟩
  have hno := priL_no n 2 n (by omega) (by omega) h
  apply Classical.byContradiction
  intro hc
  have hd1 : d ≠ 1 := fun e => hc (Or.inl e)
  have hd2 : d ≠ n := fun e => hc (Or.inr e)
  obtain ⟨c, hcd⟩ := hd
  have hd0 : d ≠ 0 := by rintro rfl; omega
  have hc0 : c ≠ 0 := by rintro rfl; omega
  have hc1 : c ≠ 1 := by rintro rfl; omega
  rcases Nat.le_total d c with hle | hle
  · exact hno d (by omega) (by omega) (by rw [hcd]; exact Nat.mul_le_mul_left d hle) ⟨c, hcd⟩
  · exact hno c (by omega) (by omega) (by rw [hcd]; exact Nat.mul_le_mul_right c hle) ⟨d, by rw [hcd, Nat.mul_comm]⟩
theorem Prm.co {p a : Nat} (hp : Prm p) (h : ¬ p ∣ a) : Nat.gcd p a = 1 := by
  rcases hp.2 _ (Nat.gcd_dvd_left p a) with e | e
  · exact e
  · exact absurd (e ▸ Nat.gcd_dvd_right p a) h
theorem Prm.mul {p a b : Nat} (hp : Prm p) (h : p ∣ a * b) : p ∣ a ∨ p ∣ b := by
  by_cases ha : p ∣ a
  · exact Or.inl ha
  · exact Or.inr (Nat.Coprime.dvd_of_dvd_mul_left (hp.co ha) h)
/-- The factors that are found are enough. -/
theorem strip_dvd (f : Nat) : ∀ n p m, 1 ≤ n → 2 ≤ p → m ∣ n → Nat.gcd m p = 1 → m ∣ stripL f n p := by
  induction f with
  | zero => intro n p m _ _ h _; exact h
  | succ f ih =>
    intro n p m h1 h2 h hg
    rw [stripL, bif_eq]
    by_cases hm : n % p = 0
    · rw [if_pos hm]
      have hpn : n = p * (n / p) := by have := Nat.div_add_mod n p; omega
      refine ih (n / p) p m ?_ h2 ?_ hg
      · apply Nat.one_le_iff_ne_zero.2
        intro e
        rw [e] at hpn
        omega
      · rw [hpn] at h
        exact Nat.Coprime.dvd_of_dvd_mul_left hg h
    · rw [if_neg hm]; exact h
theorem strip_of (f : Nat) : ∀ n p, stripL f n p ∣ n := by
  induction f with
  | zero => intro n p; exact Nat.dvd_refl n
  | succ f ih =>
    intro n p
    rw [stripL, bif_eq]
    by_cases hm : n % p = 0
    · rw [if_pos hm]
      exact Nat.dvd_trans (ih (n / p) p) (Nat.div_dvd_of_dvd (Nat.dvd_of_mod_eq_zero hm))
    · rw [if_neg hm]; exact Nat.dvd_refl n
theorem strip_pos (f : Nat) (n p : Nat) (h : 1 ≤ n) : 1 ≤ stripL f n p := Nat.pos_of_dvd_of_pos (strip_of f n p) h
theorem strip_free {p : Nat} (h2 : 2 ≤ p) (f : Nat) : ∀ n, 1 ≤ n → n < 2 ^ f → ¬ p ∣ stripL f n p := by
  induction f with
  | zero => intro n h1 h; simp at h; omega
  | succ f ih =>
    intro n h1 h hd
    rw [stripL, bif_eq] at hd
    by_cases hm : n % p = 0
    · rw [if_pos hm] at hd
      have hpn : n = p * (n / p) := by have := Nat.div_add_mod n p; omega
      have h0 : n / p ≠ 0 := fun e => by rw [e] at hpn; omega
      have h3 : 2 * (n / p) ≤ p * (n / p) := Nat.mul_le_mul_right _ h2
      exact ih (n / p) (by omega) (by rw [Nat.pow_succ] at h; omega) hd
    · rw [if_neg hm] at hd
      exact hm (Nat.mod_eq_zero_of_dvd hd)
theorem facL_all (f : Nat) : ∀ n p, 1 ≤ n → n < 2 ^ 64 → 2 ≤ p → n + 2 ≤ p + f → (∀ d, d ∣ n → d = 1 ∨ p ≤ d) → ∀ m, m ∣ n → 2 ≤ m → ∃ r ∈ facL f n p, r ∣ m := by
  induction f with
  | zero =>
    intro n p h1 hn h2 hf hd m hm hm2
    have := Nat.le_of_dvd (by omega) hm
    rcases hd m hm with e | e <;> omega
  | succ f ih =>
    intro n p h1 hn h2 hf hd m hm hm2
    have hmn := Nat.le_of_dvd (by omega) hm
    rw [facL, bif_le, if_neg (by omega), bif_le]
    by_cases hpp : p * p ≤ n
    · rw [if_pos hpp, bif_eq]
      by_cases hnp : n % p = 0
      · rw [if_pos hnp]
        by_cases hpm : p ∣ m
        · exact ⟨p, List.mem_cons_self .., hpm⟩
        · have hg : Nat.gcd m p = 1 := by
            have h3 := Nat.gcd_dvd_left m p
            have h4 := Nat.gcd_dvd_right m p
            rcases hd _ (Nat.dvd_trans h3 hm) with e | e
            · exact e
            · have h5 := Nat.le_of_dvd (by omega) h4
              have h6 : Nat.gcd m p = p := by omega
              exact absurd (h6 ▸ h3) hpm
          have hle := Nat.le_of_dvd h1 (strip_of 64 n p)
          obtain ⟨r, hr, hrm⟩ := ih (stripL 64 n p) (p + 1) (strip_pos 64 n p h1) (by omega) (by omega) (by omega) (fun d hdd => by
              rcases hd d (Nat.dvd_trans hdd (strip_of 64 n p)) with e | e
              · exact Or.inl e
              · by_cases e2 : d = p
                · subst e2
                  exact absurd hdd (strip_free h2 64 n h1 hn)
                · exact Or.inr (by omega)) m (strip_dvd 64 n p m h1 h2 hm hg) hm2
          exact ⟨r, List.mem_cons_of_mem _ hr, hrm⟩
      · rw [if_neg hnp]
        refine ih n (p + 1) h1 hn (by omega) (by omega) (fun d hdd => ?_) m hm hm2
        rcases hd d hdd with e | e
        · exact Or.inl e
        · by_cases e2 : d = p
          · subst e2
            exact absurd (Nat.mod_eq_zero_of_dvd hdd) hnp
          · exact Or.inr (by omega)
    · rw [if_neg hpp]
      refine ⟨n, List.mem_cons_self .., ?_⟩
      obtain ⟨c, hc⟩ := hm
      rcases hd c ⟨m, by rw [hc, Nat.mul_comm]⟩ with e | e
      · rw [hc, e, Nat.mul_one]; exact Nat.dvd_refl m
      · exfalso
        rcases hd m ⟨c, hc⟩ with e2 | e2
        · omega
        · have : p * p ≤ m * c := Nat.mul_le_mul e2 e
          omega
/-- All prime factors are found. -/
theorem fac_all {o m : Nat} (h1 : 1 ≤ o) (ho : o < 2 ^ 64) (hm : m ∣ o) (hm2 : 2 ≤ m) : ∃ r ∈ facL o o 2, r ∣ m :=
  facL_all o o 2 h1 ho (by omega) (by omega) (fun d hd => by
    have : d ≠ 0 := by rintro rfl; rw [Nat.zero_dvd] at hd; omega
    omega) m hm hm2
/-- Powers that leave 1. -/
theorem one_pow_mod {v a q : Nat} (q2 : 2 ≤ q) (h : v ^ a % q = 1) (c : Nat) : v ^ (a * c) % q = 1 := by
  rw [Nat.pow_mul, Nat.pow_mod, h, Nat.one_pow, Nat.mod_eq_of_lt q2]
theorem one_gcd {v q : Nat} (q2 : 2 ≤ q) (a b : Nat) : v ^ a % q = 1 → v ^ b % q = 1 → v ^ Nat.gcd a b % q = 1 := by
  induction a, b using Nat.gcd.induction with
  | H0 n => intro _ h; rw [Nat.gcd_zero_left]; exact h
  | H1 m n hm ih =>
    intro h1 h2
    rw [Nat.gcd_rec]
    refine ih ?_ h1
    have h3 := Nat.div_add_mod n m
    rw [← h3, Nat.pow_add, Nat.mul_mod, one_pow_mod q2 h1, Nat.one_mul, Nat.mod_mod] at h2
    exact h2
/-- An element of just this order. -/
structure Ord (v o q : Nat) : Prop where
  q2 : 2 ≤ q
  o1 : 1 ≤ o
  one : v ^ o % q = 1
  least : ∀ e, v ^ e % q = 1 → o ∣ e
theorem ord_of {v o q : Nat} (q2 : 2 ≤ q) (o1 : 1 ≤ o) (ho : o < 2 ^ 64) (h1 : v ^ o % q = 1) (h : ∀ p ∈ facL o o 2, v ^ (o / p) % q ≠ 1) : Ord v o q := by
  refine ⟨q2, o1, h1, fun e he => ?_⟩
  have hd := one_gcd q2 e o he h1
  have hed := Nat.gcd_dvd_left e o
  obtain ⟨c, hc⟩ := Nat.gcd_dvd_right e o
  generalize Nat.gcd e o = d at hd hed hc
  have hc0 : c ≠ 0 := by rintro rfl; omega
  by_cases c1 : c = 1
  · rw [c1, Nat.mul_one] at hc
    rw [hc]
    exact hed
  · exfalso
    obtain ⟨r, hr, t, ht⟩ := fac_all (m := c) o1 ho ⟨d, by rw [Nat.mul_comm]; exact hc⟩ (by omega)
    have hr0 : 0 < r := by
      apply Nat.pos_of_ne_zero
      rintro rfl
      omega
    refine h r hr ?_
    have : o / r = d * t := by
      have h3 : o = r * (d * t) := by rw [hc, ht, ← Nat.mul_assoc, Nat.mul_comm d r, Nat.mul_assoc]
      rw [h3]
      exact Nat.mul_div_cancel_left _ hr0
    rw [this]
    exact one_pow_mod q2 hd t
end Go.Proofs.Yteaimnemobnknaa
/- A field of remainders by a prime, with roots: the statement's ring is one. Plain. -/
set_option linter.unusedSimpArgs false
set_option linter.unusedVariables false
namespace Go.Proofs.Yteaimnemobnknaa
section
variable {q : Nat} [NeZero q]
theorem fin_mul_zero (hq : Prm q) {a b : Fin q} (h : a * b = 0) : a = 0 ∨ b = 0 := by
  have h1 : (a * b).val = 0 := by rw [h]; rfl
  rw [Fin.val_mul] at h1
  rcases hq.mul (Nat.dvd_of_mod_eq_zero h1) with e | e
  · left
    apply Fin.ext
    exact Nat.eq_zero_of_dvd_of_lt e a.isLt
  · right
    apply Fin.ext
    exact Nat.eq_zero_of_dvd_of_lt e b.isLt
/-- The powers of v. -/
def pw (q : Nat) [NeZero q] (v e : Nat) : Fin q := Fin.ofNat q (v ^ e)
theorem ofNat_mul (a b : Nat) : Fin.ofNat q (a * b) = Fin.ofNat q a * Fin.ofNat q b := by
  apply Fin.ext
  rw [Fin.val_mul]
  simp [Nat.mul_mod]
theorem ofNat_congr {a b : Nat} (h : a % q = b % q) : Fin.ofNat q a = Fin.ofNat q b := by
  apply Fin.ext
  simpa using h
theorem pw_add (v a b : Nat) : pw q v (a + b) = pw q v a * pw q v b := by
  unfold pw
  rw [Nat.pow_add, ofNat_mul]
theorem pw_one {v a : Nat} (q2 : 2 ≤ q) (h : v ^ a % q = 1) : pw q v a = 1 := by
  apply Fin.ext
  show v ^ a % q = 1 % q
  rw [h, Nat.mod_eq_of_lt q2]
theorem one_pw {v a : Nat} (q2 : 2 ≤ q) (h : pw q v a = 1) : v ^ a % q = 1 := by
  have : (pw q v a).val = (1 : Fin q).val := by rw [h]
  have h2 : v ^ a % q = 1 % q := this
  rw [h2, Nat.mod_eq_of_lt q2]
theorem pw_zero (v : Nat) : pw q v 0 = 1 := by
  apply Fin.ext
  show v ^ 0 % q = 1 % q
  rw [Nat.pow_zero]
variable {v o : Nat}
theorem Ord.mod (O : Ord v o q) (a : Nat) : pw q v (a % o) = pw q v a := by
  have h := Nat.div_add_mod a o
  have : pw q v a = pw q v (o * (a / o) + a % o) := by rw [h]
  rw [this, pw_add, pw_one O.q2 (one_pow_mod O.q2 O.one _)]
  grind
theorem Ord.congr (O : Ord v o q) {a b : Nat} (h : a % o = b % o) : pw q v a = pw q v b := by rw [← O.mod a, h, O.mod b]
/-- The k-th power of the root of the order n. -/
def rtF (q : Nat) [NeZero q] (v o : Nat) (k : Int) (n : Nat) : Fin q := pw q v (o / n * (k % (n : Int)).toNat)
/-- Powers one behind another. -/
theorem geo (t n : Nat) : (pw q v t - 1) * sumF n (fun k => pw q v (t * k)) = pw q v (t * n) - 1 := by
  induction n with
  | zero => rw [sumF_nil, Nat.mul_zero, pw_zero]; grind
  | succ n ih =>
    rw [sumF_succ, Nat.mul_succ, pw_add]
    grind
theorem emod_nat (k : Int) (n : Nat) (h : 1 ≤ n) : ∃ m : Nat, k % (n : Int) = m ∧ m < n := by
  have h1 := Int.emod_nonneg k (by omega : (n : Int) ≠ 0)
  have h2 := Int.emod_lt_of_pos k (by omega : (0 : Int) < n)
  exact ⟨(k % (n : Int)).toNat, by omega, by omega⟩
/-- Exponents that are the same but for multiples of n. -/
theorem Ord.exp (O : Ord v o q) {n : Nat} (n1 : 1 ≤ n) (hn : n ∣ o) {a b : Nat} (h : a % n = b % n) : pw q v (o / n * a) = pw q v (o / n * b) := by
  obtain ⟨c, rfl⟩ := hn
  rw [Nat.mul_div_cancel_left c n1]
  apply O.congr
  rw [Nat.mul_comm n c, Nat.mul_mod_mul_left, Nat.mul_mod_mul_left, h]
theorem Ord.rts (O : Ord v o q) (hq : Prm q) : Rts o (rtF q v o) where
  zero n n1 hn := by
    unfold rtF
    simp [pw_zero]
  add n a b n1 hn := by
    obtain ⟨x, hx, hx2⟩ := emod_nat a n n1
    obtain ⟨y, hy, hy2⟩ := emod_nat b n n1
    obtain ⟨z, hz, hz2⟩ := emod_nat (a + b) n n1
    unfold rtF
    rw [hx, hy, hz, Int.toNat_natCast, Int.toNat_natCast, Int.toNat_natCast, ← pw_add, ← Nat.mul_add]
    apply O.exp n1 hn
    have h1 : ((z % n : Nat) : Int) = (((x + y) % n : Nat) : Int) := by
      rw [Int.natCast_emod, Int.natCast_emod, ← hz, Int.natCast_add, ← hx, ← hy]
      simp
    omega
  full n m n1 hn := by
    unfold rtF
    rw [Int.mul_emod_right]
    simp [pw_zero]
  scale m n k m1 n1 hmn := by
    obtain ⟨c, hc⟩ := hmn
    obtain ⟨x, hx, hx2⟩ := emod_nat k n n1
    unfold rtF
    rw [Int.natCast_mul, Int.mul_emod_mul_of_pos _ _ (by omega), hx]
    have h1 : o / (m * n) = c := by rw [hc]; exact Nat.mul_div_cancel_left c (Nat.mul_pos m1 n1)
    have h2 : o / n = m * c := by
      rw [hc, show m * n * c = n * (m * c) from by rw [Nat.mul_comm m n, Nat.mul_assoc]]
      exact Nat.mul_div_cancel_left _ n1
    rw [h1, h2, Int.toNat_natCast, show ((m : Int) * (x : Int)).toNat = m * x from by rw [← Int.natCast_mul, Int.toNat_natCast]]
    congr 1
    rw [← Nat.mul_assoc, Nat.mul_comm c m]
  orth n j n1 hn hj := by
    obtain ⟨x, hx, hx2⟩ := emod_nat j n n1
    have hx0 : x ≠ 0 := fun e => hj (Int.dvd_of_emod_eq_zero (by rw [hx, e]; rfl))
    have h1 : ∀ k, rtF q v o (j * (k : Nat)) n = pw q v (o / n * x * k) := fun k => by
      obtain ⟨z, hz, hz2⟩ := emod_nat (j * (k : Nat)) n n1
      unfold rtF
      rw [hz, Int.toNat_natCast, Nat.mul_assoc]
      apply O.exp n1 hn
      have h2 : ((z % n : Nat) : Int) = ((x * k % n : Nat) : Int) := by
        rw [Int.natCast_emod, Int.natCast_emod, ← hz, Int.natCast_mul, ← hx]
        simp [Int.mul_emod]
      omega
    rw [sumF_congr (g := fun k => pw q v (o / n * x * k)) (fun k _ => h1 k)]
    have hg := geo (q := q) (v := v) (o / n * x) n
    obtain ⟨c, hc⟩ := hn
    have h3 : o / n = c := by rw [hc]; exact Nat.mul_div_cancel_left c n1
    have h4 : pw q v (o / n * x * n) = 1 := by
      rw [h3, show c * x * n = o * x from by rw [hc]; grind]
      exact pw_one O.q2 (one_pow_mod O.q2 O.one x)
    rw [h4] at hg
    have h5 : pw q v (o / n * x) ≠ 1 := fun e => by
      have h6 := O.least _ (one_pw O.q2 e)
      have c0 : 0 < c := by
        apply Nat.pos_of_ne_zero
        rintro rfl
        have := O.o1
        omega
      rw [h3] at h6
      have h7 := Nat.le_of_dvd (Nat.mul_pos c0 (by omega)) h6
      have h8 : c * x < c * n := Nat.mul_lt_mul_of_pos_left hx2 c0
      rw [hc, Nat.mul_comm n c] at h7
      omega
    rcases fin_mul_zero hq (a := pw q v (o / n * x) - 1) (by rw [hg]; grind) with e | e
    · exact absurd (by grind) h5
    · exact e
/-- Products. -/
def prodF : Nat → (Nat → Fin q) → Fin q
  | 0, _ => 1
  | n + 1, f => prodF n f * f n
theorem prodF_congr {n : Nat} {f g : Nat → Fin q} (h : ∀ k, k < n → f k = g k) : prodF n f = prodF n g := by
  induction n with
  | zero => rfl
  | succ n ih => rw [prodF, prodF, ih (fun k hk => h k (by omega)), h n (by omega)]
theorem prodF_mul (n : Nat) (f g : Nat → Fin q) : prodF n (fun k => f k * g k) = prodF n f * prodF n g := by
  induction n with
  | zero => unfold prodF; grind
  | succ n ih => rw [prodF, prodF, prodF, ih]; grind
theorem prodF_ones (n : Nat) : prodF n (fun _ => (1 : Fin q)) = 1 := by
  induction n with
  | zero => rfl
  | succ n ih => rw [prodF, ih]; grind
theorem prodF_one (n j : Nat) (f : Nat → Fin q) (hj : j < n) : prodF n (fun k => if k = j then f k else 1) = f j := by
  induction n with
  | zero => omega
  | succ n ih =>
    rw [prodF]
    by_cases e : n = j
    · subst e
      rw [if_pos rfl, prodF_congr (g := fun _ => 1) fun k hk => by rw [if_neg (by omega)], prodF_ones]
      grind
    · rw [ih (by omega), if_neg e]; grind
/-- A product in another order. -/
theorem prodF_perm (n : Nat) (s : Nat → Nat) (f : Nat → Fin q) (hm : ∀ k, k < n → s k < n) (hi : ∀ k l, k < n → l < n → s k = s l → k = l) : prodF n (fun k => f (s k)) = prodF n f := by
  induction n generalizing s f with
  | zero => rfl
  | succ n ih =>
    have hex : ∃ j, j < n + 1 ∧ s j = n := by
      apply Classical.byContradiction
      intro hno
      have hlt : ∀ k, k < n + 1 → s k < n := fun k hk => by
        have := hm k hk
        have : s k ≠ n := fun e => hno ⟨k, hk, e⟩
        omega
      exact sumF_perm.pigeon n s hlt hi
    obtain ⟨j, hj, hjn⟩ := hex
    have ht := ih (fun k => if k = j then s n else s k) f
      (fun k hk => by
        show (if k = j then s n else s k) < n
        by_cases e : k = j
        · rw [if_pos e]
          have := hm n (by omega)
          have : s n ≠ n := fun h => by have := hi n j (by omega) hj (by omega); omega
          omega
        · rw [if_neg e]
          have := hm k (by omega)
          have : s k ≠ n := fun h => e (hi k j (by omega) hj (by omega))
          omega)
      (fun k l hk hl h => by
        by_cases e : k = j
        · by_cases e2 : l = j
          · omega
          · rw [if_pos e, if_neg e2] at h
            have := hi n l (by omega) (by omega) h
            omega
        · by_cases e2 : l = j
          · rw [if_neg e, if_pos e2] at h
            have := hi k n (by omega) (by omega) h
            omega
          · rw [if_neg e, if_neg e2] at h
            exact hi k l (by omega) (by omega) h)
    rw [prodF, prodF, ← ht]
    by_cases e : j = n
    · subst e
      rw [hjn]
      congr 1
      exact prodF_congr fun k hk => by rw [if_neg (by omega)]
    · have h1 : prodF n (fun k => f (s k)) = prodF n (fun k => (if k = j then f (s k) else 1) * (if k = j then 1 else f (s k))) := prodF_congr fun k _ => by
        by_cases e : k = j
        · rw [if_pos e, if_pos e]; grind
        · rw [if_neg e, if_neg e]; grind
      have h2 : prodF n (fun k => f (if k = j then s n else s k)) = prodF n (fun k => (if k = j then f (s n) else 1) * (if k = j then 1 else f (s k))) := prodF_congr fun k _ => by
        by_cases e : k = j
        · rw [if_pos e, if_pos e, if_pos e]; grind
        · rw [if_neg e, if_neg e, if_neg e]; grind
      rw [h1, h2, prodF_mul, prodF_mul, prodF_one n j (fun k => f (s k)) (by omega), prodF_one n j (fun _ => f (s n)) (by omega), hjn]
      grind
theorem prodF_ne (hq : Prm q) (n : Nat) (f : Nat → Fin q) (h : ∀ k, k < n → f k ≠ 0) : prodF n f ≠ 0 := by
  induction n with
  | zero =>
    intro e
    have : (1 : Fin q).val = (0 : Fin q).val := congrArg Fin.val e
    have h1 : 1 % q = 0 := this
    rw [Nat.mod_eq_of_lt hq.1] at h1
    omega
  | succ n ih =>
    intro e
    rcases fin_mul_zero hq e with e | e
    · exact ih (fun k hk => h k (by omega)) e
    · exact h n (by omega) e
theorem prodF_left (n a : Nat) (f : Nat → Fin q) : prodF n (fun k => Fin.ofNat q a * f k) = pw q a n * prodF n f := by
  induction n with
  | zero => rw [pw_zero]; unfold prodF; grind
  | succ n ih =>
    have : pw q a (n + 1) = pw q a n * Fin.ofNat q a := by rw [pw_add]; unfold pw; rw [Nat.pow_one]
    rw [prodF, prodF, ih, this]
    grind
/-- The power with q - 1 leaves 1. -/
theorem fermat (hq : Prm q) {a : Nat} (ha : ¬ q ∣ a) : pw q a (q - 1) = 1 := by
  have h2 := hq.1
  have key : ∀ k, k < q - 1 → a * (k + 1) % q ≠ 0 := fun k hk e => by
    rcases hq.mul (Nat.dvd_of_mod_eq_zero e) with h | h
    · exact ha h
    · have := Nat.le_of_dvd (by omega) h
      omega
  have hlt : ∀ k, a * (k + 1) % q < q := fun k => Nat.mod_lt _ (by omega)
  have hp := prodF_perm (q := q) (q - 1) (fun k => a * (k + 1) % q - 1) (fun k => Fin.ofNat q (k + 1)) (fun k hk => by
      have := key k hk
      have := hlt k
      show a * (k + 1) % q - 1 < q - 1
      omega) (fun k l hk hl e => by
      have h3 := key k hk
      have h4 := key l hl
      have e : a * (k + 1) % q - 1 = a * (l + 1) % q - 1 := e
      have e : a * (k + 1) % q = a * (l + 1) % q := by omega
      rcases Nat.le_total k l with hkl | hkl
      · have h5 : q ∣ a * (l + 1) - a * (k + 1) := Nat.dvd_of_mod_eq_zero (Nat.sub_mod_eq_zero_of_mod_eq e.symm)
        rw [← Nat.mul_sub] at h5
        rcases hq.mul h5 with h | h
        · exact absurd h ha
        · have := Nat.eq_zero_of_dvd_of_lt h (by omega)
          omega
      · have h5 : q ∣ a * (k + 1) - a * (l + 1) := Nat.dvd_of_mod_eq_zero (Nat.sub_mod_eq_zero_of_mod_eq e)
        rw [← Nat.mul_sub] at h5
        rcases hq.mul h5 with h | h
        · exact absurd h ha
        · have := Nat.eq_zero_of_dvd_of_lt h (by omega)
          omega)
  have h5 : prodF (q := q) (q - 1) (fun k => Fin.ofNat q (a * (k + 1) % q - 1 + 1)) = prodF (q - 1) (fun k => Fin.ofNat q a * Fin.ofNat q (k + 1)) := prodF_congr fun k hk => by
    have := key k hk
    rw [Nat.sub_add_cancel (by omega), ← ofNat_mul]
    exact ofNat_congr (Nat.mod_mod _ _)
  rw [h5, prodF_left] at hp
  have hne : prodF (q := q) (q - 1) (fun k => Fin.ofNat q (k + 1)) ≠ 0 := prodF_ne hq _ _ fun k hk e => by
    have : (Fin.ofNat q (k + 1)).val = (0 : Fin q).val := congrArg Fin.val e
    have h6 : (k + 1) % q = 0 := this
    rw [Nat.mod_eq_of_lt (by omega)] at h6
    omega
  rcases fin_mul_zero hq (a := pw q a (q - 1) - 1) (b := prodF (q - 1) (fun k => Fin.ofNat q (k + 1))) (by grind) with e | e
  · grind
  · exact absurd e hne
end
end Go.Proofs.Yteaimnemobnknaa
