/- Words for memory: writes to one block alone; a long number's cells. -/
import Derived.Test.YtnpkblidlmkagaaW2
set_option linter.unusedSimpArgs false
set_option linter.unusedVariables false
namespace Go.Proofs.Ytnpkblidlmkagaa
open Go.RowKit Fl

/-- Of what was there block b alone may have turned. -/
structure OnlyB (b : Nat) (w w' : World) : Prop where
  os : w'.os = w.os
  tape : w'.tape = w.tape
  output : w'.output = w.output
  size : w.heap.size ≤ w'.heap.size
  block : ∀ k, k < w.heap.size → k ≠ b → w'.heap[k]? = w.heap[k]?

theorem OnlyB.refl (b : Nat) (w : World) : OnlyB b w w := ⟨rfl, rfl, rfl, Nat.le_refl _, fun _ _ _ => rfl⟩
theorem OnlyB.trans {b : Nat} {x y z : World} (h : OnlyB b x y) (k : OnlyB b y z) : OnlyB b x z :=
  ⟨k.os.trans h.os, k.tape.trans h.tape, k.output.trans h.output, Nat.le_trans h.size k.size, fun i hi hb => (k.block i (Nat.lt_of_lt_of_le hi h.size) hb).trans (h.block i hi hb)⟩
theorem OnlyB.drew {b : Nat} {x y : World} (h : OnlyB b x y) : OnlyB b x y.drew := ⟨h.os, h.tape, h.output, h.size, h.block⟩
theorem OnlyB.setCell {b : Nat} {x y : World} (h : OnlyB b x y) (o : Nat) (s : Option Nat) (v : Value) : OnlyB b x (y.setCell ⟨b, o, s⟩ v) :=
  h.trans ⟨rfl, rfl, rfl, by simp [World.setCell], fun k _ hk => Below.heap_setCell _ _ _ _ hk⟩
theorem OnlyB.alloc {b : Nat} {x y : World} (h : OnlyB b x y) (o : Obj) : OnlyB b x (y.alloc o) :=
  h.trans ⟨rfl, rfl, rfl, by simp, fun k hk _ => Below.heap_alloc _ _ _ hk⟩
theorem OnlyB.of_below {b : Nat} {x y : World} (h : Below x.heap.size x y) : OnlyB b x y := ⟨h.os, h.tape, h.output, h.size, fun k hk _ => h.block k hk⟩
theorem OnlyB.below {b : Nat} {x y : World} (h : OnlyB b x y) (hb : b ≤ x.heap.size) : Below b x y :=
  ⟨h.os, h.tape, h.output, h.size, fun k hk => h.block k (by omega) (by omega)⟩
theorem OnlyB.cell {b : Nat} {x y : World} (h : OnlyB b x y) {p : Addr} (hl : p.block < x.heap.size) (hp : p.block ≠ b) : y.cell? p = x.cell? p := World.cell?_of_block (w := x) (h.block p.block hl hp)
theorem OnlyB.frozen {b : Nat} {x y : World} (h : OnlyB b x y) {p : Addr} (hl : p.block < x.heap.size) (hp : p.block ≠ b) : y.frozen? p = x.frozen? p := World.frozen?_of_block (w := x) (h.block p.block hl hp)

theorem Two.only {W w1 : World} {b c : Nat} {u v : Value} (h : OnlyB c W w1) (hbc : b ≠ c) (t : Two W b u v) : Two w1 b u v := by
  have hl := t.lt
  refine ⟨?_, ?_, ?_, ?_⟩
  · rw [h.cell (p := ⟨b, 0, none⟩) hl hbc]; exact t.1
  · rw [h.cell (p := ⟨b, 1, none⟩) hl hbc]; exact t.2.1
  · rw [h.frozen (p := ⟨b, 0, none⟩) hl hbc]; exact t.2.2.1
  · rw [h.frozen (p := ⟨b, 1, none⟩) hl hbc]; exact t.2.2.2

/-- The long number in block b has these limbs. -/
def Limbs (w : World) (b : Nat) (f : Nat → Int) : Prop := ∀ i, i < 110 → w.cell? ⟨b, i, none⟩ = some (.int .i64 (f i)) ∧ w.frozen? ⟨b, i, none⟩ = false

theorem Limbs.lt {w : World} {b : Nat} {f : Nat → Int} (h : Limbs w b f) : b < w.heap.size := World.block_lt_of_cell? _ _ (h 0 (by omega)).1
theorem Limbs.drew {w : World} {b : Nat} {f : Nat → Int} (h : Limbs w b f) : Limbs w.drew b f := fun i hi => h i hi
theorem Limbs.keep {W w1 : World} {b : Nat} {f : Nat → Int} (hb : Below W.heap.size W w1) (h : Limbs W b f) : Limbs w1 b f :=
  fun i hi => ⟨keep_cell hb (h i hi).1, keep_free hb h.lt (h i hi).2⟩
theorem Limbs.alloc {w : World} {b : Nat} {f : Nat → Int} (h : Limbs w b f) (o : Obj) : Limbs (w.alloc o) b f :=
  h.keep ((Below.refl _ w).alloc (Nat.le_refl _) o)

def upd (f : Nat → Int) (j : Nat) (v : Int) : Nat → Int := fun i => if i = j then v else f i

theorem Limbs.set {w : World} {b : Nat} {f : Nat → Int} (h : Limbs w b f) {j : Nat} (hj : j < 110) (v : Int) : Limbs (w.setCell ⟨b, j, none⟩ (.int .i64 v)) b (upd f j v) := by
  intro i hi
  refine ⟨?_, by rw [World.frozen?_setCell]; exact (h i hi).2⟩
  unfold upd
  by_cases e : i = j
  · subst e; rw [if_pos rfl]; exact World.cell?_setCell_same _ _ _ (h i hi).1
  · rw [if_neg e, World.cell?_setCell_other]
    · exact (h i hi).1
    · exact fun h => e (congrArg Addr.off h).symm

theorem u64_low30 (x : Nat) (h : x < 2 ^ 64) : bits .and .u64 (x : Int) 1073741823 = ((x % 1073741824 : Nat) : Int) := by
  have := u64_and_nat x 1073741823 (by omega) (by omega)
  rw [show ((1073741823 : Nat) : Int) = 1073741823 from rfl] at this
  rw [this, show (1073741823 : Nat) = 2 ^ 30 - 1 from rfl, Nat.and_two_pow_sub_one_eq_mod]

theorem i64_low30 (v : Int) : bits .and .i64 v 1073741823 = v % 1073741824 := by
  show IntKind.i64.wrap ((BitVec.ofInt 64 v &&& BitVec.ofInt 64 1073741823).toNat : Int) = _
  rw [BitVec.toNat_and]
  have e1 : (BitVec.ofInt 64 1073741823).toNat = 2 ^ 30 - 1 := by decide
  have e2 : ((BitVec.ofInt 64 v).toNat : Int) = v % 18446744073709551616 := by
    rw [BitVec.toNat_ofInt]; omega
  rw [e1, Nat.and_two_pow_sub_one_eq_mod, IntKind.wrap_i64]
  omega

/-- What a round of Put does to the limbs: 'p' is added at 'j'. -/
def putStep (neg : Bool) (f : Nat → Int) (j : Nat) (p : Nat) : Nat → Int :=
  let lo : Int := if neg then -((p % 2 ^ 30 : Nat) : Int) else ((p % 2 ^ 30 : Nat) : Int)
  let hi : Int := if neg then -((p / 2 ^ 30 : Nat) : Int) else ((p / 2 ^ 30 : Nat) : Int)
  let g := upd f j (f j + lo)
  upd g (j + 1) (g (j + 1) + hi)

/-- The i-th piece of 30 bits, moved. -/
def piece (u s i : Nat) : Nat := u / 2 ^ (30 * i) % 2 ^ 30 * 2 ^ s

/-- After so many rounds. -/
def putTo (neg : Bool) (f : Nat → Int) (u s K : Nat) : Nat → (Nat → Int)
  | 0 => f
  | i + 1 => putStep neg (putTo neg f u s K i) (K + i) (piece u s i)

/-- Bounds on the limbs. -/
def Bnd (f : Nat → Int) (B : Nat) : Prop := ∀ i, -(B : Int) ≤ f i ∧ f i ≤ B

theorem piece_lt (u s i : Nat) (hs : s < 30) : piece u s i < 2 ^ 60 := by
  unfold piece
  have h1 : u / 2 ^ (30 * i) % 2 ^ 30 < 2 ^ 30 := Nat.mod_lt _ (by decide)
  have h2 : 2 ^ s ≤ 2 ^ 29 := Nat.pow_le_pow_right (by omega) (by omega)
  have := Nat.mul_le_mul (Nat.le_of_lt h1) h2
  omega

theorem Bnd.step {f : Nat → Int} {B : Nat} (h : Bnd f B) (neg : Bool) (j p : Nat) (hp : p < 2 ^ 60) : Bnd (putStep neg f j p) (B + 2 ^ 30) := by
  intro i
  have hi := h i
  have hj := h j
  have hj1 := h (j + 1)
  unfold putStep upd
  have e : j + 1 ≠ j := by omega
  simp only [e, if_false]
  split
  · split <;> omega
  · split
    · split <;> omega
    · omega

theorem Bnd.to {f : Nat → Int} {B : Nat} (h : Bnd f B) (neg : Bool) (u s K : Nat) (hs : s < 30) : ∀ i, Bnd (putTo neg f u s K i) (B + i * 2 ^ 30)
  | 0 => by simpa [putTo] using h
  | i + 1 => by
    have := (Bnd.to h neg u s K hs i).step neg (K + i) _ (piece_lt u s i hs)
    rw [show B + (i + 1) * 2 ^ 30 = B + i * 2 ^ 30 + 2 ^ 30 from by omega]
    exact this

/-- What the limbs stand for: units of 2^-1200. -/
def val (f : Nat → Int) : Nat → Int
  | 0 => 0
  | n + 1 => val f n + f n * 2 ^ (30 * n)

theorem val_upd (f : Nat → Int) (j : Nat) (d : Int) : ∀ n, val (upd f j (f j + d)) n = val f n + if j < n then d * 2 ^ (30 * j) else 0
  | 0 => by simp [val]
  | n + 1 => by
    unfold val
    rw [val_upd f j d n]
    by_cases h : j < n
    · have e : n ≠ j := by omega
      rw [if_pos h, if_pos (by omega)]
      simp [upd, e]
      omega
    · by_cases e : n = j
      · subst e
        rw [if_neg h, if_pos (by omega)]
        simp [upd, Int.add_mul]
        omega
      · rw [if_neg h, if_neg (by omega)]
        simp [upd, e]

theorem val_step (neg : Bool) (f : Nat → Int) (j p n : Nat) (hj : j + 1 < n) : val (putStep neg f j p) n = val f n + (if neg then -1 else 1) * (p : Int) * 2 ^ (30 * j) := by
  unfold putStep
  simp only
  rw [val_upd, val_upd, if_pos hj, if_pos (by omega)]
  have e : (p : Int) = ((p % 2 ^ 30 : Nat) : Int) + ((p / 2 ^ 30 : Nat) : Int) * 2 ^ 30 := by omega
  have e2 : (2 : Int) ^ (30 * (j + 1)) = 2 ^ 30 * 2 ^ (30 * j) := by rw [← Int.pow_add]; congr 1; omega
  rw [e2, Int.add_assoc]
  congr 1
  generalize hA : ((p % 2 ^ 30 : Nat) : Int) = A at *
  generalize hB : ((p / 2 ^ 30 : Nat) : Int) = B at *
  rw [e]
  generalize (2 : Int) ^ (30 * j) = P
  have h30 : (2 : Int) ^ 30 = 1073741824 := by decide
  rw [h30]
  cases neg
  · simp only [Bool.false_eq_true, if_false]
    rw [Int.one_mul, Int.add_mul, Int.mul_assoc]
  · simp only [if_true]
    rw [Int.neg_mul, Int.neg_mul, Int.neg_mul, Int.one_mul, Int.neg_mul, Int.add_mul, Int.mul_assoc]
    omega

/-- Put adds m times 2^(30 K + s). -/
theorem val_put (neg : Bool) (f : Nat → Int) (u s K : Nat) (hu : u < 2 ^ 90) (hK : K + 3 < 110) :
    val (putTo neg f u s K 3) 110 = val f 110 + (if neg then -1 else 1) * (u : Int) * 2 ^ (30 * K + s) := by
  simp only [putTo]
  rw [val_step _ _ _ _ _ (by omega), val_step _ _ _ _ _ (by omega), val_step _ _ _ _ _ (by omega)]
  have hp : ∀ i, ((piece u s i : Nat) : Int) * 2 ^ (30 * (K + i)) = ((u / 2 ^ (30 * i) % 2 ^ 30 : Nat) : Int) * 2 ^ (30 * i) * 2 ^ (30 * K + s) := by
    intro i
    unfold piece
    rw [Int.natCast_mul]
    have e1 : ((2 ^ s : Nat) : Int) = 2 ^ s := by simp
    rw [e1, Int.mul_assoc, Int.mul_assoc, ← Int.pow_add, ← Int.pow_add]
    congr 2
    omega
  have hu3 : (u : Int) = ((u / 2 ^ (30 * 0) % 2 ^ 30 : Nat) : Int) * 2 ^ (30 * 0) + ((u / 2 ^ (30 * 1) % 2 ^ 30 : Nat) : Int) * 2 ^ (30 * 1) + ((u / 2 ^ (30 * 2) % 2 ^ 30 : Nat) : Int) * 2 ^ (30 * 2) := by
    have e0 : 2 ^ (30 * 0) = 1 := by decide
    have e1 : 2 ^ (30 * 1) = 1073741824 := by decide
    have e2 : 2 ^ (30 * 2) = 1152921504606846976 := by decide
    have i0 : (2 : Int) ^ (30 * 0) = 1 := by decide
    have i1 : (2 : Int) ^ (30 * 1) = 1073741824 := by decide
    have i2 : (2 : Int) ^ (30 * 2) = 1152921504606846976 := by decide
    rw [e0, e1, e2, i0, i1, i2]
    omega
  have g0 := hp 0
  have g1 := hp 1
  have g2 := hp 2
  have hsum : (u : Int) * 2 ^ (30 * K + s) = ((piece u s 0 : Nat) : Int) * 2 ^ (30 * (K + 0)) + ((piece u s 1 : Nat) : Int) * 2 ^ (30 * (K + 1)) + ((piece u s 2 : Nat) : Int) * 2 ^ (30 * (K + 2)) := by
    rw [g0, g1, g2, ← Int.add_mul, ← Int.add_mul, ← hu3]
  cases neg
  · simp only [Bool.false_eq_true, if_false, Int.one_mul]
    omega
  · simp only [if_true, Int.neg_mul, Int.one_mul]
    omega

end Go.Proofs.Ytnpkblidlmkagaa
