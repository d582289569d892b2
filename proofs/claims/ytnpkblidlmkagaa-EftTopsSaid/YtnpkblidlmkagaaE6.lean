/- How an argument []int64 looks. -/
import Derived.Test.YtnpkblidlmkagaaE1
import Derived.ProofKit
import Derived.OpenShut
set_option linter.unusedSimpArgs false
set_option linter.unusedVariables false
namespace Go.Proofs.Ytnpkblidlmkagaa
open Go.ChangeShapes Go.WideShapes Go.ChangeAt Go.RowKit

theorem cells2 : Try.prog.cellsOf 2 = 1 := by kernel_rfl

set_option maxRecDepth 100000 in
theorem shape_ints {H : Type} {enc : TypeId × Value → H} {W : World} {base : Nat} {v : Value} {d : DataW H} {p : List MemPlace} (hval : Value.okWide Try.prog W .any base 49 v)
    (h : DataW.Trod enc Try.prog W 0 (fun _ => true) true 49 v d p) : ∃ A n c f, v = .slice A n c ∧ IntsAt W A n f ∧ n ≤ 9223372036854775807 ∧ (A = none → c = 0) ∧ n ≤ c := by
  obtain ⟨a0, len, cap, rfl⟩ := okWide_slice Try.underlying49 hval
  obtain ⟨fuel, hf⟩ := h
  rcases open_ints Try.underlying49 Try.underlying2 cells2 hf with ⟨hcs, hx⟩ | ⟨a, len', cap', zs, hcs, _, hl, hm, hz, hx, hcell, hwz⟩
  · simp [Value.cells] at hcs
    obtain ⟨rfl, rfl, rfl⟩ := hcs
    exact ⟨_, _, _, fun _ => 0, rfl, IntsAt.nil _ _ _, by omega, fun _ => rfl, by omega⟩
  · simp [Value.cells] at hcs
    obtain ⟨rfl, rfl, rfl⟩ := hcs
    simp only [Prod.mk.injEq] at hx
    obtain ⟨rfl, rfl⟩ := hx
    simp only [if_true] at hz
    refine ⟨_, _, _, fun i => zs.getD i 0, rfl, ?_, by unfold maxLen at hm; omega, (fun e => by cases e), by omega⟩
    intro i hi
    obtain ⟨b, off, spot⟩ := a
    have hspot : spot = none := by simpa [Addr.add] using World.cell?_spot (hcell 0 (by omega))
    subst hspot
    refine ⟨b, off, rfl, ?_⟩
    have := hcell i (by omega)
    rwa [add_plain] at this

end Go.Proofs.Ytnpkblidlmkagaa
