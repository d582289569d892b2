/- The walk of ModelExact. -/
import Derived.Test.YteaimnemobnknaaMM1
import Derived.Test.YteaimnemobnknaaML2
set_option linter.unusedSimpArgs false
set_option linter.unusedVariables false
namespace Go.Proofs.Yteaimnemobnknaa
open Go.RowKit Go.Lib

/-- What a law asks of a number between 1 and 100. -/
theorem small_field {kind : Int} {m : Nat} {r : Int} {q : Fo} (hm : m ≤ 100) (h : (ordR kind m r q).2 = 0 ∧ (ordR kind m r q).1 ≤ 4294967296) : ∃ o Q, ordR kind m r q = (o, 0) ∧ FieldQ o Q := by
  obtain ⟨h1, h2⟩ := h
  have e : ordR kind m r q = ((ordR kind m r q).1, 0) := by rw [← h1]
  obtain ⟨Q, F⟩ := one_field hm (ord_in hm e) h2
  exact ⟨_, Q, e, F⟩

end Go.Proofs.Yteaimnemobnknaa
