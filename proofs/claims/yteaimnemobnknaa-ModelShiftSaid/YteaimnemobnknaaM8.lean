/- Lists that are turned round by one place. Plain. -/
import Derived.Test.YteaimnemobnknaaM6
set_option linter.unusedSimpArgs false
set_option linter.unusedVariables false
namespace Go.Proofs.Yteaimnemobnknaa
open Go.RowKit Go.Lib

section
variable {q : Nat} [NeZero q]
theorem dft_rot {v o : Nat} (hp : Prm q) (O : Ord v o q) {n : Nat} (n1 : 1 ≤ n) (hn : n ∣ o) (x : Nat → Fin q) (k : Nat) :
    dft (rtF q v o) n 1 (fun i => x ((i + 1) % n)) k * rtF q v o k n = dft (rtF q v o) n 1 x k := by
  have H := O.rts hp
  have e1 : dft (rtF q v o) n 1 (fun i => x ((i + 1) % n)) k * rtF q v o k n = sumF n fun i => (fun j : Nat => x j * rtF q v o (1 * ((k : Int) * (j : Nat))) n) ((i + 1) % n) := by
    unfold dft
    rw [← sumF_right]
    refine sumF_congr fun i _ => ?_
    have e2 : rtF q v o (1 * ((k : Int) * ((((i + 1) % n : Nat)) : Int))) n = rtF q v o (1 * ((k : Int) * (i : Nat))) n * rtF q v o k n := by
      rw [← H.add n _ _ n1 hn, Int.one_mul, Int.one_mul, H.red n1 hn (k : Int) ((i + 1) % n) (i + 1) (Nat.mod_mod _ _), Int.natCast_add, Int.mul_add, show (k : Int) * ((1 : Nat) : Int) = k from Int.mul_one _]
    show _ = x ((i + 1) % n) * rtF q v o (1 * ((k : Int) * ((((i + 1) % n : Nat)) : Int))) n
    rw [e2]
    grind
  rw [e1, sumF_perm n (fun i => (i + 1) % n) (fun j : Nat => x j * rtF q v o (1 * ((k : Int) * (j : Nat))) n) (fun i _ => Nat.mod_lt _ (by omega)) ?_]
  · rfl
  · intro a b ha hb h
    have h' : (a + 1) % n = (b + 1) % n := h
    by_cases h1 : a + 1 = n
    · rw [h1, Nat.mod_self] at h'
      by_cases h2 : b + 1 = n
      · omega
      · rw [Nat.mod_eq_of_lt (by omega)] at h'; omega
    · rw [Nat.mod_eq_of_lt (by omega : a + 1 < n)] at h'
      by_cases h2 : b + 1 = n
      · rw [h2, Nat.mod_self] at h'; omega
      · rw [Nat.mod_eq_of_lt (by omega)] at h'; omega
end
/-- The list turned round by one place. -/
def rotF (n : Nat) (X : Nat → Int) : Nat → Int := fun i => if i + 1 < n then X (i + 1) else X 0
theorem rotF_rng {n : Nat} {X : Nat → Int} (h : Rng X) : Rng (rotF n X) := fun i => by
  unfold rotF
  split
  · exact h _
  · exact h 0
theorem rotF_mod {n : Nat} {X : Nat → Int} {i : Nat} (hi : i < n) : rotF n X i = X ((i + 1) % n) := by
  unfold rotF
  by_cases h : i + 1 < n
  · rw [if_pos h, Nat.mod_eq_of_lt h]
  · rw [if_neg h, show i + 1 = n from by omega, Nat.mod_self]
theorem dft_congr {q : Nat} [NeZero q] {rt : Int → Nat → Fin q} {n : Nat} {s : Int} {x y : Nat → Fin q} (h : ∀ i, i < n → x i = y i) (j : Nat) : dft rt n s x j = dft rt n s y j := by
  unfold dft
  exact sumF_congr fun i hi => by rw [h i hi]
theorem shift_plain {Q V O N : Nat} (G : FieldG Q V O) (n1 : 1 ≤ N) (hN : N ∣ O) (X : Nat → Int) (k : Nat) :
    ((rdF Q V O N 1 (remF Q (rotF N X)) k : Nat) : Int) * ((rootR Q V O (k : Int) N : Nat) : Int) % (Q : Int) = ((rdF Q V O N 1 (remF Q X) k : Nat) : Int) := by
  have hp := G.pr
  have h2 := hp.1
  have hlo := G.lo
  have hq0 : NeZero Q := ⟨by omega⟩
  have H := hom_law hp G.od G.nq
  have hl := rdF_lt (v := V) (o := O) (n := N) hp.1 1 (remF Q X) k
  have h0 := Int.emod_nonneg (((rdF Q V O N 1 (remF Q (rotF N X)) k : Nat) : Int) * ((rootR Q V O (k : Int) N : Nat) : Int)) (show (Q : Int) ≠ 0 by omega)
  have h1 := Int.emod_lt_of_pos (((rdF Q V O N 1 (remF Q (rotF N X)) k : Nat) : Int) * ((rootR Q V O (k : Int) N : Nat) : Int)) (show (0 : Int) < Q by omega)
  refine hq_inj h0 h1 (by omega) (by omega) ?_
  rw [hq_mod, hq_mul, rdF_dft hp G.od G.nq n1 hN (.inl rfl), rdF_dft hp G.od G.nq n1 hN (.inl rfl)]
  have hr : hq Q ((rootR Q V O (k : Int) N : Nat) : Int) = rtF Q V O k N := H.root (k : Int) N n1 hN
  rw [hr, ← dft_rot hp G.od n1 hN (fun i => hq Q (remF Q X i)) k]
  congr 1
  exact dft_congr (fun i hi => by
    show hq Q (remF Q (rotF N X) i) = hq Q (remF Q X ((i + 1) % N))
    unfold remF
    rw [rotF_mod hi]) k
theorem rotF_ints {n : Nat} (X : Nat → Int) : intsV (n + 1) (rotF (n + 1) X) = intsV n (fun i => X (1 + i)) ++ [.int .i64 (X 0)] := by
  rw [intsV_succ]
  have e1 : rotF (n + 1) X n = X 0 := by unfold rotF; rw [if_neg (by omega)]
  have e2 : intsV n (rotF (n + 1) X) = intsV n (fun i => X (1 + i)) := by
    unfold intsV
    refine List.map_congr_left fun i hi => ?_
    have := List.mem_range.1 hi
    unfold rotF
    rw [if_pos (by omega), Nat.add_comm]
  rw [e1, e2]
end Go.Proofs.Yteaimnemobnknaa
