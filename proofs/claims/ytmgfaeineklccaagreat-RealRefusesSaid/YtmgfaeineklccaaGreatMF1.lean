/- How the arguments of layers 18 and 19 look: lists of integers. -/
import Derived.Test.YtmgfaeineklccaaGreatMV1
import Derived.ProofKit
import Derived.OpenShut
import Derived.SizedLaws
import Derived.Deep.Slices
set_option maxRecDepth 100000
set_option linter.unusedSimpArgs false
set_option linter.unusedVariables false
namespace Go.Proofs.YtmgfaeineklccaaGreat
open Go.ChangeShapes Go.WideShapes Go.ChangeAt Go.RowKit
theorem cells_int:Tryz.prog.cellsOf 3=1:=by kernel_rfl
theorem cells_int64:Tryz.prog.cellsOf 2=1:=by kernel_rfl
theorem wf_rng{x:Int}(hx:(Lit.int .i64 x).wf=true):-9223372036854775808<=x/\x<=9223372036854775807:=by
 have m1:IntKind.i64.min=-9223372036854775808:=rfl
 have m2:IntKind.i64.max=9223372036854775807:=rfl
 simp only[Lit.wf,Bool.and_eq_true,decide_eq_true_eq] at hx
 omega
end Go.Proofs.YtmgfaeineklccaaGreat
