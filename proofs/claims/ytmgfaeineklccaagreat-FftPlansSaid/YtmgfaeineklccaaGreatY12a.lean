/- exec by a plan: what it gives. -/
import Derived.Test.YtmgfaeineklccaaGreatMQ4
import Derived.Test.YtmgfaeineklccaaGreatMQ3
import Derived.Test.YtmgfaeineklccaaGreatMC3
set_option linter.unusedSimpArgs false
set_option linter.unusedVariables false
namespace Go.Proofs.YtmgfaeineklccaaGreat
open Go.RowKit Go.Lib

theorem word_of {x v : Nat} (h : nz x = v) (hv : v ≠ 9221120237041090560) : x = v := by
  rw [nz_eq] at h
  cases e : isN x
  · rw [e] at h; exact h
  · rw [e] at h; exact absurd h.symm hv
/-- What a plan gives in complex floats. -/
def exF (kind n r : Int) (q : Fo) : Tr Cx := nodeF ringR pwF kind n.toNat r.toNat q.sizes (q.runs ringR pwF)
theorem chkC_of (kind n r : Int) (q : Fo) (want : Int) (h : checkE kind n r q want = 0) (hN : q.count ≤ 549755813888) : ChkC kind n r q want 0 := by
  have := Check_any kind n r q want hN
  rwa [h] at this
end Go.Proofs.YtmgfaeineklccaaGreat
