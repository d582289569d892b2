/- How an argument that is an array of two integers looks. -/
import Derived.Test.YtnpkblidlmkagaaW16
import Derived.ProofKit
import Derived.OpenShut
set_option linter.unusedSimpArgs false
set_option linter.unusedVariables false
namespace Go.Proofs.Ytnpkblidlmkagaa
open Go.ChangeShapes Go.WideShapes Go.ChangeAt Go.RowKit

set_option maxRecDepth 100000 in
theorem shape_pair {H : Type} {enc : TypeId × Value → H} {W : World} {base : Nat} {v : Value} {d : DataW H} {p : List MemPlace} (hval : Value.okWide Try.prog W .any base 38 v)
    (h : DataW.Trod enc Try.prog W 0 (fun _ => true) true 38 v d p) : ∃ x y, v = pair2 x y := by
  obtain ⟨cs, rfl, hsz, _⟩ : ∃ cs, v = .agg cs ∧ cs.size = Try.prog.cellsOf 38 ∧ Row.okWide Try.prog W .any base 38 cs := by
    simpa [Value.okWide, Try.underlying38] using hval
  have c38 : Try.prog.cellsOf 38 = 2 := by kernel_rfl
  have c2 : Try.prog.cellsOf 2 = 1 := by kernel_rfl
  rw [c38] at hsz
  obtain ⟨l⟩ := cs
  obtain ⟨c0, c1, rfl⟩ : ∃ a b, l = [a, b] := by
    match l, hsz with
    | [a, b], _ => exact ⟨a, b, rfl⟩
  obtain ⟨fuel, hf⟩ := h
  obtain ⟨xs, m, rfl, hx, _, hn, hel⟩ := DataW.trod_array Try.underlying38 hf
  have h0 := hel 0 (by omega)
  have h1 := hel 1 (by omega)
  rw [c2] at h0 h1
  simp only [Value.cells] at h0 h1
  obtain ⟨y0, y1, rfl⟩ : ∃ a b, xs = [a, b] := by
    match xs, hn with
    | [a, b], _ => exact ⟨a, b, rfl⟩
  obtain ⟨x0, e0, _, _⟩ := DataW.trod_int Try.underlying2 h0
  obtain ⟨x1, e1, _, _⟩ := DataW.trod_int Try.underlying2 h1
  simp at e0 e1
  subst e0 e1
  exact ⟨x0, x1, rfl⟩

end Go.Proofs.Ytnpkblidlmkagaa
