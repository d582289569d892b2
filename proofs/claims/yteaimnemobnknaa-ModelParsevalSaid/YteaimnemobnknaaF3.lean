/- How the arguments of layers 18 and 19 look: pairs of lists. -/
import Derived.Test.YteaimnemobnknaaF1
import Derived.Deep.Slices
set_option linter.unusedSimpArgs false
set_option linter.unusedVariables false
namespace Go.Proofs.Yteaimnemobnknaa
open Go.ChangeShapes Go.WideShapes Go.ChangeAt Go.RowKit

theorem weights_all {H : Type} {P : Program} {e : TypeId} : ∀ {l : List (DataW H)} {d : DataW H}, d ∈ l → ∀ n ∈ d.weights P e, n ∈ DataW.weightsAll P e l
  | d' :: r, d, hd, n, hn => by
    simp only [DataW.weightsAll, List.mem_append]
    rcases List.mem_cons.1 hd with rfl | h
    · exact Or.inl hn
    · exact Or.inr (weights_all h n hn)
theorem reach8 {k : Nat} (h : k * 8 ≤ reachBytes) : k ≤ 1125899906842624 := by
  unfold reachBytes at h; omega
end Go.Proofs.Yteaimnemobnknaa
