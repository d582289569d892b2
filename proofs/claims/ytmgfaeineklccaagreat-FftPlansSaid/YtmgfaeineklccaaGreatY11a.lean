/- The plan of the split radix over complex floats. -/
import Derived.Test.YtmgfaeineklccaaGreatY7
import Derived.Test.YtmgfaeineklccaaGreatMQ3
set_option linter.unusedSimpArgs false
set_option linter.unusedVariables false
set_option linter.unusedSectionVars false
namespace Go.Proofs.YtmgfaeineklccaaGreat
open Go.RowKit Go.Lib
section
variable {M : Mem} {ρ : RingC}

set_option maxRecDepth 100000 in
set_option maxHeartbeats 2000000 in
theorem planX_split (H : ρ.Ok M) (N e : Nat) (he : N = 2 ^ e) (h1 : 1 ≤ N) (h2 : N ≤ 32768) (kids : Fo) : PlanX M ρ 2 N 0 kids N (splitF ρ.R N N) := by
  refine ⟨fun s hs w A c X cx x hk hX hw => ?_⟩
  have HH := Lib.hid H
  have HS := Lib.hid hs
  have HX := Lib.hid hX
  have HW := Lib.hid hw
  have HE := Lib.hid he
  clear H hk hX hw hs he
  go_enter Tryz.func128, Tryz.ntmps128
  go_wp2_with fail
  have hb1 := boxes_on HH.out.mem HW.out (.cells #[.iface ρ.t ρ.v, .int .i64 s] 193) (.cells #[.int .i64 2, .int .i64 N, .int .i64 0, .slice A kids.len c] 27)
  refine (SplitC_r HH.out s HS.out N N e HE.out (by omega) h2 _ X cx x (HX.out.keepM HH.out.mem hb1 HW.out) hb1.st).mono ?_
  rintro z w1 ⟨g, rfl, hg, ho, hb2⟩
  have HB := Lib.hid (hb1.trans HH.out.mem hb2)
  have HO := Lib.hid ho
  have HG : Hid (w.heap.size ≤ g) := Lib.hid (by have := HH.out.mem.size hb1.fr; omega)
  clear hb1 hb2 ho hg
  go_wp2
  go_ret
  exact ⟨g, rfl, HG.out, HO.out, HB.out⟩

end
end Go.Proofs.YtmgfaeineklccaaGreat
