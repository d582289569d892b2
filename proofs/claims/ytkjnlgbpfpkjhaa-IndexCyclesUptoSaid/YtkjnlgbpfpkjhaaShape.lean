/- How the arguments look: a slice of integers, an integer. -/
import Derived.Test.YtkjnlgbpfpkjhaaB3
import Derived.ProofKit
import Derived.OpenShut
import Derived.SizedLaws
set_option linter.unusedSimpArgs false
set_option linter.unusedVariables false
namespace Go.Proofs.Ytkjnlgbpfpkjhaa
open Go.ChangeShapes Go.WideShapes Go.ChangeAt Go.RowKit

theorem cells3 : Try.prog.cellsOf 3 = 1 := by kernel_rfl
theorem bytes3 : Try.prog.bytesOf 3 = 8 := by kernel_rfl

/-- How long a slice's datum is. -/
def dlen {H : Type} : DataW H → Nat
  | .slice xs ys => xs.length + ys.length
  | _ => 0

theorem shape_ints {H : Type} {enc : TypeId × Value → H} {W : World} {base : Nat} {v : Value} {d : DataW H} {p : List MemPlace} (hval : Value.okWide Try.prog W .any base 22 v)
    (h : DataW.Trod enc Try.prog W 0 (fun _ => true) true 22 v d p) : ∃ A n c f, v = .slice A n c ∧ IntsAt W A n f ∧ n ≤ 9223372036854775807 ∧ n ≤ dlen d ∧ (A = none → c = 0) := by
  obtain ⟨a0, len, cap, rfl⟩ := okWide_slice Try.underlying22 hval
  obtain ⟨fuel, hf⟩ := h
  rcases open_ints Try.underlying22 Try.underlying3 cells3 hf with ⟨hcs, hx⟩ | ⟨a, len', cap', zs, hcs, _, hl, hm, hz, hx, hcell, hwz⟩
  · simp [Value.cells] at hcs
    obtain ⟨rfl, rfl, rfl⟩ := hcs
    exact ⟨_, _, _, fun _ => 0, rfl, IntsAt.nil _ _ _, by omega, by omega, fun _ => rfl⟩
  · simp [Value.cells] at hcs
    obtain ⟨rfl, rfl, rfl⟩ := hcs
    simp only [Prod.mk.injEq] at hx
    obtain ⟨rfl, rfl⟩ := hx
    simp only [if_true] at hz
    refine ⟨_, _, _, fun i => zs.getD i 0, rfl, ?_, by unfold maxLen at hm; omega, ?_, fun e => by cases e⟩
    · intro i hi
      obtain ⟨b, off, spot⟩ := a
      have hspot : spot = none := by simpa [Addr.add] using World.cell?_spot (hcell 0 (by omega))
      subst hspot
      refine ⟨b, off, rfl, ?_⟩
      have := hcell i (by omega)
      rwa [add_plain] at this
    · simp only [dlen, lits, List.length_map, List.length_take, List.length_drop]
      omega

/-- A slice that is read takes no more memory than the reach. -/
theorem sized_ints {H : Type} {enc : TypeId × Value → H} {W : World} {A : Option Addr} {n c : Nat} {d : DataW H} {p : List MemPlace} {ts : List TypeId} {ds : List (DataW H)} {j : Nat}
    (h : DataW.Trod enc Try.prog W 0 (fun _ => true) true 22 (.slice A n c) d p) (hsz : (DataW.weightsEach Try.prog ts ds).all (· ≤ reachBytes) = true) (ht : ts[j]? = some 22) (hd : ds[j]? = some d) (hn : n ≤ dlen d) : n * 8 ≤ 140737488351232 := by
  obtain ⟨fuel, hf⟩ := h
  rcases open_ints Try.underlying22 Try.underlying3 cells3 hf with ⟨hcs, hx⟩ | ⟨a, len', cap', zs, hcs, _, hl, hm, hz, hx, hcell, hwz⟩
  · simp [Value.cells] at hcs
    omega
  · simp [Value.cells] at hcs
    obtain ⟨rfl, rfl, rfl⟩ := hcs
    simp only [Prod.mk.injEq] at hx
    obtain ⟨rfl, rfl⟩ := hx
    have := sized_slice hsz (j := j) (t := 22) (e := 3) ht hd Try.underlying22
    rw [bytes3] at this
    simp only [dlen, lits, List.length_map, List.length_take, List.length_drop, reachBytes] at this hn
    omega

theorem cells51 : Try.prog.cellsOf 51 = 3 := by kernel_rfl

set_option maxRecDepth 100000 in
theorem shape_triple {H : Type} {enc : TypeId × Value → H} {W : World} {base : Nat} {v : Value} {d : DataW H} {p : List MemPlace} (hval : Value.okWide Try.prog W .any base 51 v)
    (h : DataW.Trod enc Try.prog W 0 (fun _ => true) true 51 v d p) : ∃ x y z, v = .agg #[.int .i64 x, .int .i64 y, .int .i64 z] ∧ (-9223372036854775808 ≤ x ∧ x ≤ 9223372036854775807) ∧ (-9223372036854775808 ≤ y ∧ y ≤ 9223372036854775807) ∧ (-9223372036854775808 ≤ z ∧ z ≤ 9223372036854775807) := by
  obtain ⟨cs, rfl, hsz, _⟩ : ∃ cs, v = .agg cs ∧ cs.size = Try.prog.cellsOf 51 ∧ Row.okWide Try.prog W .any base 51 cs := by
    simpa [Value.okWide, Try.underlying51] using hval
  rw [cells51] at hsz
  obtain ⟨l⟩ := cs
  obtain ⟨c0, c1, c2, rfl⟩ : ∃ a b c, l = [a, b, c] := by
    match l, hsz with
    | [a, b, c], _ => exact ⟨a, b, c, rfl⟩
  obtain ⟨fuel, hf⟩ := h
  obtain ⟨xs, m, rfl, hx, _, hn, hel⟩ := DataW.trod_array Try.underlying51 hf
  have h0 := hel 0 (by omega)
  have h1 := hel 1 (by omega)
  have h2 := hel 2 (by omega)
  rw [cells3] at h0 h1 h2
  simp only [Value.cells] at h0 h1 h2
  obtain ⟨y0, y1, y2, rfl⟩ : ∃ a b c, xs = [a, b, c] := by
    match xs, hn with
    | [a, b, c], _ => exact ⟨a, b, c, rfl⟩
  obtain ⟨x0, e0, _, w0⟩ := DataW.trod_int Try.underlying3 h0
  obtain ⟨x1, e1, _, w1⟩ := DataW.trod_int Try.underlying3 h1
  obtain ⟨x2, e2, _, w2⟩ := DataW.trod_int Try.underlying3 h2
  simp at e0 e1 e2
  subst e0 e1 e2
  have bd : ∀ x : Int, (Lit.int .i64 x).wf = true → -9223372036854775808 ≤ x ∧ x ≤ 9223372036854775807 := fun x hx => by
    have m1 : IntKind.i64.min = -9223372036854775808 := rfl
    have m2 : IntKind.i64.max = 9223372036854775807 := rfl
    simp only [Lit.wf, Bool.and_eq_true, decide_eq_true_eq] at hx
    omega
  exact ⟨x0, x1, x2, rfl, bd _ w0, bd _ w1, bd _ w2⟩

end Go.Proofs.Ytkjnlgbpfpkjhaa
