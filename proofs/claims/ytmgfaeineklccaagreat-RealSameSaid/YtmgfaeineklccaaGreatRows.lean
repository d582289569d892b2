/-
  No cell of these rows narrows 'for every input' (looked for: loops, veiled, ifaces, maps, wideKeys, modest, calm, conditions, laid).
  DERIVED. THE GIVEN ROWS OF THIS SEAT. 10 by the template 'for every input the law returns true; each argument reads behind the call as it read before'; 0 by the template 'total and deterministic' (their statements: YtmgfaeineklccaaGreatTotals.lean).
  GIVEN WITH THE SEED: the statements are not yours to turn. If you find one false, say at which input.
  Laid BY PROGRAM, IN A SANDBOX (cutbox-rows.mjs): the forced cells as the released guide's own fill.sh prints them over the translation aba63afcfb0a369f… (all of the seat's roots in one cut). By AI agents, Wed Nov 11 2026. No macro, syntax, notation, axiom, sorry.
-/
import Derived.Test.YtmgfaeineklccaaGreatChecked
import GoSem.Claim
import GoSem.ClaimJoined
import GoSem.ClaimMapViews
import Derived.JoinedTies
import Derived.KernelRfl
namespace Go.Proofs.YtmgfaeineklccaaGreat
/- THE CELL 'sum', in the pinned program and in every row, IS THE sha256 OF THE DUMP (.gsa) THAT YtmgfaeineklccaaGreatProg.lean LOADS. Nothing in Lean hashes anything: it is a label: what it is worth is what the hold of that sum in a sandbox is worth. -/
noncomputable def Tryz.pinned : Pinned := { name := "ytmgfaeineklccaagreat", sum := "aba63afcfb0a369f9285080e95a30dcf4c76aa4472d4d27fb11ca23ca6251771", checked := Tryz.checked }
namespace Rows
def none {H : Type} : Left H := { results := [], args := [] }

/-- 'diapasonlaw20.ExecBounds': WHATEVER THE INPUT: true; the input reads as it did. -/
def execBoundsSpec : ChangeSpec := { name := "execBounds", fn := fun _ => fun
  | [d1, d2, d3] => { results := [.lit (.bool true)], args := [d1, d2, d3] }
  | _ => none }
def execBoundsRow : OpenClaim := { program := "ytmgfaeineklccaagreat", sum := "aba63afcfb0a369f9285080e95a30dcf4c76aa4472d4d27fb11ca23ca6251771", func := "diapason/diapasonlaw20.ExecBounds", spec := "execBounds", inPlace := ["math.Float64bits", "math.Float64frombits"], unfollowed := true, recurses := true, named := ["math/bits.divideError", "math/bits.overflowError"], plainKeys := false, apart := false }
def ExecBoundsSaid : Prop := execBoundsRow.holds Tryz.pinned (OpenSpec.ofChange execBoundsSpec)

/-- ITS FALSE NEIGHBOUR: 'it returns false'. Refute it at one input. -/
def execBoundsWrong : ChangeSpec := { name := "execBounds", fn := fun _ => fun
  | [d1, d2, d3] => { results := [.lit (.bool false)], args := [d1, d2, d3] }
  | _ => none }
def ExecBoundsWrongFalsely : Prop := execBoundsRow.holds Tryz.pinned (OpenSpec.ofChange execBoundsWrong)

/-- 'diapasonlaw20.ExecRefuses': WHATEVER THE INPUT: true; the input reads as it did. -/
def execRefusesSpec : ChangeSpec := { name := "execRefuses", fn := fun _ => fun
  | [d1, d2, d3] => { results := [.lit (.bool true)], args := [d1, d2, d3] }
  | _ => none }
def execRefusesRow : OpenClaim := { program := "ytmgfaeineklccaagreat", sum := "aba63afcfb0a369f9285080e95a30dcf4c76aa4472d4d27fb11ca23ca6251771", func := "diapason/diapasonlaw20.ExecRefuses", spec := "execRefuses", inPlace := ["math.Float64frombits", "math.Float64bits"], unfollowed := true, recurses := true, named := ["math/bits.divideError", "math/bits.overflowError"], plainKeys := false, apart := false }
def ExecRefusesSaid : Prop := execRefusesRow.holds Tryz.pinned (OpenSpec.ofChange execRefusesSpec)

/-- ITS FALSE NEIGHBOUR: 'it returns false'. Refute it at one input. -/
def execRefusesWrong : ChangeSpec := { name := "execRefuses", fn := fun _ => fun
  | [d1, d2, d3] => { results := [.lit (.bool false)], args := [d1, d2, d3] }
  | _ => none }
def ExecRefusesWrongFalsely : Prop := execRefusesRow.holds Tryz.pinned (OpenSpec.ofChange execRefusesWrong)

/-- 'diapasonlaw20.ExecSame': WHATEVER THE INPUT: true; the input reads as it did. -/
def execSameSpec : ChangeSpec := { name := "execSame", fn := fun _ => fun
  | [d1, d2, d3] => { results := [.lit (.bool true)], args := [d1, d2, d3] }
  | _ => none }
def execSameRow : OpenClaim := { program := "ytmgfaeineklccaagreat", sum := "aba63afcfb0a369f9285080e95a30dcf4c76aa4472d4d27fb11ca23ca6251771", func := "diapason/diapasonlaw20.ExecSame", spec := "execSame", inPlace := ["math.Float64bits", "math.Float64frombits"], unfollowed := true, recurses := true, named := ["math/bits.divideError", "math/bits.overflowError"], plainKeys := false, apart := false }
def ExecSameSaid : Prop := execSameRow.holds Tryz.pinned (OpenSpec.ofChange execSameSpec)

/-- ITS FALSE NEIGHBOUR: 'it returns false'. Refute it at one input. -/
def execSameWrong : ChangeSpec := { name := "execSame", fn := fun _ => fun
  | [d1, d2, d3] => { results := [.lit (.bool false)], args := [d1, d2, d3] }
  | _ => none }
def ExecSameWrongFalsely : Prop := execSameRow.holds Tryz.pinned (OpenSpec.ofChange execSameWrong)

/-- 'diapasonlaw21.RealRefuses': WHATEVER THE INPUT: true; the input reads as it did. -/
def realRefusesSpec : ChangeSpec := { name := "realRefuses", fn := fun _ => fun
  | [d1, d2, d3] => { results := [.lit (.bool true)], args := [d1, d2, d3] }
  | _ => none }
def realRefusesRow : OpenClaim := { program := "ytmgfaeineklccaagreat", sum := "aba63afcfb0a369f9285080e95a30dcf4c76aa4472d4d27fb11ca23ca6251771", func := "diapason/diapasonlaw21.RealRefuses", spec := "realRefuses", inPlace := ["math.Float64frombits", "math.Float64bits"], unfollowed := true, recurses := true, named := ["math/bits.divideError", "math/bits.overflowError"], plainKeys := false, apart := false }
def RealRefusesSaid : Prop := realRefusesRow.holds Tryz.pinned (OpenSpec.ofChange realRefusesSpec)

/-- ITS FALSE NEIGHBOUR: 'it returns false'. Refute it at one input. -/
def realRefusesWrong : ChangeSpec := { name := "realRefuses", fn := fun _ => fun
  | [d1, d2, d3] => { results := [.lit (.bool false)], args := [d1, d2, d3] }
  | _ => none }
def RealRefusesWrongFalsely : Prop := realRefusesRow.holds Tryz.pinned (OpenSpec.ofChange realRefusesWrong)

/-- 'diapasonlaw21.RealWholes': WHATEVER THE INPUT: true; the input reads as it did. -/
def realWholesSpec : ChangeSpec := { name := "realWholes", fn := fun _ => fun
  | [d1, d2] => { results := [.lit (.bool true)], args := [d1, d2] }
  | _ => none }
def realWholesRow : OpenClaim := { program := "ytmgfaeineklccaagreat", sum := "aba63afcfb0a369f9285080e95a30dcf4c76aa4472d4d27fb11ca23ca6251771", func := "diapason/diapasonlaw21.RealWholes", spec := "realWholes", inPlace := ["math.Float64frombits", "math.Float64bits"], unfollowed := true, recurses := true, named := ["math/bits.divideError", "math/bits.overflowError"], plainKeys := false, apart := false }
def RealWholesSaid : Prop := realWholesRow.holds Tryz.pinned (OpenSpec.ofChange realWholesSpec)

/-- ITS FALSE NEIGHBOUR: 'it returns false'. Refute it at one input. -/
def realWholesWrong : ChangeSpec := { name := "realWholes", fn := fun _ => fun
  | [d1, d2] => { results := [.lit (.bool false)], args := [d1, d2] }
  | _ => none }
def RealWholesWrongFalsely : Prop := realWholesRow.holds Tryz.pinned (OpenSpec.ofChange realWholesWrong)

/-- 'diapasonlaw23.FftPlans': WHATEVER THE INPUT: true; the input reads as it did. -/
def fftPlansSpec : ChangeSpec := { name := "fftPlans", fn := fun _ => fun
  | [d] => { results := [.lit (.bool true)], args := [d] }
  | _ => none }
def fftPlansRow : OpenClaim := { program := "ytmgfaeineklccaagreat", sum := "aba63afcfb0a369f9285080e95a30dcf4c76aa4472d4d27fb11ca23ca6251771", func := "diapason/diapasonlaw23.FftPlans", spec := "fftPlans", inPlace := ["math.Float64bits", "math.Float64frombits"], unfollowed := true, recurses := true, named := ["math/bits.divideError", "math/bits.overflowError"], plainKeys := false, apart := false }
def FftPlansSaid : Prop := fftPlansRow.holds Tryz.pinned (OpenSpec.ofChange fftPlansSpec)

/-- ITS FALSE NEIGHBOUR: 'it returns false'. Refute it at one input. -/
def fftPlansWrong : ChangeSpec := { name := "fftPlans", fn := fun _ => fun
  | [d] => { results := [.lit (.bool false)], args := [d] }
  | _ => none }
def FftPlansWrongFalsely : Prop := fftPlansRow.holds Tryz.pinned (OpenSpec.ofChange fftPlansWrong)

/-- 'diapasonlaw21.RealSame': WHATEVER THE INPUT: true; the input reads as it did. -/
def realSameSpec : ChangeSpec := { name := "realSame", fn := fun _ => fun
  | [d1, d2, d3] => { results := [.lit (.bool true)], args := [d1, d2, d3] }
  | _ => none }
def realSameRow : OpenClaim := { program := "ytmgfaeineklccaagreat", sum := "aba63afcfb0a369f9285080e95a30dcf4c76aa4472d4d27fb11ca23ca6251771", func := "diapason/diapasonlaw21.RealSame", spec := "realSame", inPlace := ["math.Float64bits", "math.Float64frombits"], unfollowed := true, recurses := true, named := ["math/bits.divideError", "math/bits.overflowError"], plainKeys := false, apart := false }
def RealSameSaid : Prop := realSameRow.holds Tryz.pinned (OpenSpec.ofChange realSameSpec)

/-- ITS FALSE NEIGHBOUR: 'it returns false'. Refute it at one input. -/
def realSameWrong : ChangeSpec := { name := "realSame", fn := fun _ => fun
  | [d1, d2, d3] => { results := [.lit (.bool false)], args := [d1, d2, d3] }
  | _ => none }
def RealSameWrongFalsely : Prop := realSameRow.holds Tryz.pinned (OpenSpec.ofChange realSameWrong)

/-- 'diapasonlaw22.MultiRefuses': WHATEVER THE INPUT: true; the input reads as it did. -/
def multiRefusesSpec : ChangeSpec := { name := "multiRefuses", fn := fun _ => fun
  | [d1, d2] => { results := [.lit (.bool true)], args := [d1, d2] }
  | _ => none }
def multiRefusesRow : OpenClaim := { program := "ytmgfaeineklccaagreat", sum := "aba63afcfb0a369f9285080e95a30dcf4c76aa4472d4d27fb11ca23ca6251771", func := "diapason/diapasonlaw22.MultiRefuses", spec := "multiRefuses", inPlace := ["math.Float64bits", "math.Float64frombits"], unfollowed := true, recurses := true, named := ["math/bits.divideError", "math/bits.overflowError"], plainKeys := false, apart := false }
def MultiRefusesSaid : Prop := multiRefusesRow.holds Tryz.pinned (OpenSpec.ofChange multiRefusesSpec)

/-- ITS FALSE NEIGHBOUR: 'it returns false'. Refute it at one input. -/
def multiRefusesWrong : ChangeSpec := { name := "multiRefuses", fn := fun _ => fun
  | [d1, d2] => { results := [.lit (.bool false)], args := [d1, d2] }
  | _ => none }
def MultiRefusesWrongFalsely : Prop := multiRefusesRow.holds Tryz.pinned (OpenSpec.ofChange multiRefusesWrong)

/-- 'diapasonlaw23.FftSame': WHATEVER THE INPUT: true; the input reads as it did. -/
def fftSameSpec : ChangeSpec := { name := "fftSame", fn := fun _ => fun
  | [d1, d2, d3] => { results := [.lit (.bool true)], args := [d1, d2, d3] }
  | _ => none }
def fftSameRow : OpenClaim := { program := "ytmgfaeineklccaagreat", sum := "aba63afcfb0a369f9285080e95a30dcf4c76aa4472d4d27fb11ca23ca6251771", func := "diapason/diapasonlaw23.FftSame", spec := "fftSame", inPlace := ["math.Float64frombits", "math.Float64bits"], unfollowed := true, recurses := true, named := ["math/bits.divideError", "math/bits.overflowError"], plainKeys := false, apart := false }
def FftSameSaid : Prop := fftSameRow.holds Tryz.pinned (OpenSpec.ofChange fftSameSpec)

/-- ITS FALSE NEIGHBOUR: 'it returns false'. Refute it at one input. -/
def fftSameWrong : ChangeSpec := { name := "fftSame", fn := fun _ => fun
  | [d1, d2, d3] => { results := [.lit (.bool false)], args := [d1, d2, d3] }
  | _ => none }
def FftSameWrongFalsely : Prop := fftSameRow.holds Tryz.pinned (OpenSpec.ofChange fftSameWrong)

/-- 'diapasonlaw23.FftHistory': WHATEVER THE INPUT: true; the input reads as it did. -/
def fftHistorySpec : ChangeSpec := { name := "fftHistory", fn := fun _ => fun
  | [d1, d2] => { results := [.lit (.bool true)], args := [d1, d2] }
  | _ => none }
def fftHistoryRow : OpenClaim := { program := "ytmgfaeineklccaagreat", sum := "aba63afcfb0a369f9285080e95a30dcf4c76aa4472d4d27fb11ca23ca6251771", func := "diapason/diapasonlaw23.FftHistory", spec := "fftHistory", inPlace := ["math.Float64bits", "math.Float64frombits"], unfollowed := true, recurses := true, named := ["math/bits.divideError", "math/bits.overflowError"], plainKeys := false, apart := false }
def FftHistorySaid : Prop := fftHistoryRow.holds Tryz.pinned (OpenSpec.ofChange fftHistorySpec)

/-- ITS FALSE NEIGHBOUR: 'it returns false'. Refute it at one input. -/
def fftHistoryWrong : ChangeSpec := { name := "fftHistory", fn := fun _ => fun
  | [d1, d2] => { results := [.lit (.bool false)], args := [d1, d2] }
  | _ => none }
def FftHistoryWrongFalsely : Prop := fftHistoryRow.holds Tryz.pinned (OpenSpec.ofChange fftHistoryWrong)

/- THE SECOND FORM. 'bulk': how many values and letters a reading holds, each counted each time it is reached (what is shared counts as often as it is met; a slice's spare places count too). A statement '..UptoSaid' is the law's where the arguments, and the package variables that the reading takes, are together of bulk at most 1048576: NARROWER than '..Said'. Prove '..Said' where nothing that the law and all that it calls make is longer than what came in: it says more and counts as full. Else prove '..UptoSaid'. A law counts once. -/
mutual
def uptoBulk {H : Type} : DataW H → Nat
  | .lit (.string bytes) => bytes.length + 1
  | .lit _ => 1
  | .nil => 1
  | .ptr d => uptoBulk d + 1
  | .slice elems spare => uptoBulkAll elems + uptoBulkAll spare + 1
  | .agg parts => uptoBulkAll parts + 1
  | .iface _ d => uptoBulk d + 1
  | .map entries => uptoBulkEntries entries + 1
  | .held _ => 1
def uptoBulkAll {H : Type} : List (DataW H) → Nat
  | [] => 0
  | d :: r => uptoBulk d + uptoBulkAll r
def uptoBulkEntries {H : Type} : List (Lit × DataW H) → Nat
  | [] => 0
  | x :: r => uptoBulkEntry x + uptoBulkEntries r
def uptoBulkEntry {H : Type} : Lit × DataW H → Nat
  | (.string bytes, d) => bytes.length + uptoBulk d + 1
  | (_, d) => uptoBulk d + 1
 end
def uptoSmall : (H : Type) → List (DataW H) → Bool := fun _ ds => decide (uptoBulkAll ds ≤ 1048576)
def OpenSpec.upto (s : _root_.Go.ChangeSpec) : _root_.Go.OpenSpec := { _root_.Go.OpenSpec.ofChange s with cond := some uptoSmall }

/-- 'diapasonlaw20.ExecBounds', WHERE WHAT IT READS IS OF BULK AT MOST 1048576: true; the input reads as it did. -/
def execBoundsUptoRow : OpenClaim := { program := "ytmgfaeineklccaagreat", sum := "aba63afcfb0a369f9285080e95a30dcf4c76aa4472d4d27fb11ca23ca6251771", func := "diapason/diapasonlaw20.ExecBounds", spec := "execBounds", inPlace := ["math.Float64bits", "math.Float64frombits"], unfollowed := true, recurses := true, named := ["math/bits.divideError", "math/bits.overflowError"], plainKeys := false, apart := false, narrowed := true }
def ExecBoundsUptoSaid : Prop := execBoundsUptoRow.holds Tryz.pinned (OpenSpec.upto execBoundsSpec)

/-- 'diapasonlaw20.ExecRefuses', WHERE WHAT IT READS IS OF BULK AT MOST 1048576: true; the input reads as it did. -/
def execRefusesUptoRow : OpenClaim := { program := "ytmgfaeineklccaagreat", sum := "aba63afcfb0a369f9285080e95a30dcf4c76aa4472d4d27fb11ca23ca6251771", func := "diapason/diapasonlaw20.ExecRefuses", spec := "execRefuses", inPlace := ["math.Float64frombits", "math.Float64bits"], unfollowed := true, recurses := true, named := ["math/bits.divideError", "math/bits.overflowError"], plainKeys := false, apart := false, narrowed := true }
def ExecRefusesUptoSaid : Prop := execRefusesUptoRow.holds Tryz.pinned (OpenSpec.upto execRefusesSpec)

/-- 'diapasonlaw20.ExecSame', WHERE WHAT IT READS IS OF BULK AT MOST 1048576: true; the input reads as it did. -/
def execSameUptoRow : OpenClaim := { program := "ytmgfaeineklccaagreat", sum := "aba63afcfb0a369f9285080e95a30dcf4c76aa4472d4d27fb11ca23ca6251771", func := "diapason/diapasonlaw20.ExecSame", spec := "execSame", inPlace := ["math.Float64bits", "math.Float64frombits"], unfollowed := true, recurses := true, named := ["math/bits.divideError", "math/bits.overflowError"], plainKeys := false, apart := false, narrowed := true }
def ExecSameUptoSaid : Prop := execSameUptoRow.holds Tryz.pinned (OpenSpec.upto execSameSpec)

/-- 'diapasonlaw21.RealRefuses', WHERE WHAT IT READS IS OF BULK AT MOST 1048576: true; the input reads as it did. -/
def realRefusesUptoRow : OpenClaim := { program := "ytmgfaeineklccaagreat", sum := "aba63afcfb0a369f9285080e95a30dcf4c76aa4472d4d27fb11ca23ca6251771", func := "diapason/diapasonlaw21.RealRefuses", spec := "realRefuses", inPlace := ["math.Float64frombits", "math.Float64bits"], unfollowed := true, recurses := true, named := ["math/bits.divideError", "math/bits.overflowError"], plainKeys := false, apart := false, narrowed := true }
def RealRefusesUptoSaid : Prop := realRefusesUptoRow.holds Tryz.pinned (OpenSpec.upto realRefusesSpec)

/-- 'diapasonlaw21.RealWholes', WHERE WHAT IT READS IS OF BULK AT MOST 1048576: true; the input reads as it did. -/
def realWholesUptoRow : OpenClaim := { program := "ytmgfaeineklccaagreat", sum := "aba63afcfb0a369f9285080e95a30dcf4c76aa4472d4d27fb11ca23ca6251771", func := "diapason/diapasonlaw21.RealWholes", spec := "realWholes", inPlace := ["math.Float64frombits", "math.Float64bits"], unfollowed := true, recurses := true, named := ["math/bits.divideError", "math/bits.overflowError"], plainKeys := false, apart := false, narrowed := true }
def RealWholesUptoSaid : Prop := realWholesUptoRow.holds Tryz.pinned (OpenSpec.upto realWholesSpec)

/-- 'diapasonlaw23.FftPlans', WHERE WHAT IT READS IS OF BULK AT MOST 1048576: true; the input reads as it did. -/
def fftPlansUptoRow : OpenClaim := { program := "ytmgfaeineklccaagreat", sum := "aba63afcfb0a369f9285080e95a30dcf4c76aa4472d4d27fb11ca23ca6251771", func := "diapason/diapasonlaw23.FftPlans", spec := "fftPlans", inPlace := ["math.Float64bits", "math.Float64frombits"], unfollowed := true, recurses := true, named := ["math/bits.divideError", "math/bits.overflowError"], plainKeys := false, apart := false, narrowed := true }
def FftPlansUptoSaid : Prop := fftPlansUptoRow.holds Tryz.pinned (OpenSpec.upto fftPlansSpec)

/-- 'diapasonlaw21.RealSame', WHERE WHAT IT READS IS OF BULK AT MOST 1048576: true; the input reads as it did. -/
def realSameUptoRow : OpenClaim := { program := "ytmgfaeineklccaagreat", sum := "aba63afcfb0a369f9285080e95a30dcf4c76aa4472d4d27fb11ca23ca6251771", func := "diapason/diapasonlaw21.RealSame", spec := "realSame", inPlace := ["math.Float64bits", "math.Float64frombits"], unfollowed := true, recurses := true, named := ["math/bits.divideError", "math/bits.overflowError"], plainKeys := false, apart := false, narrowed := true }
def RealSameUptoSaid : Prop := realSameUptoRow.holds Tryz.pinned (OpenSpec.upto realSameSpec)

/-- 'diapasonlaw22.MultiRefuses', WHERE WHAT IT READS IS OF BULK AT MOST 1048576: true; the input reads as it did. -/
def multiRefusesUptoRow : OpenClaim := { program := "ytmgfaeineklccaagreat", sum := "aba63afcfb0a369f9285080e95a30dcf4c76aa4472d4d27fb11ca23ca6251771", func := "diapason/diapasonlaw22.MultiRefuses", spec := "multiRefuses", inPlace := ["math.Float64bits", "math.Float64frombits"], unfollowed := true, recurses := true, named := ["math/bits.divideError", "math/bits.overflowError"], plainKeys := false, apart := false, narrowed := true }
def MultiRefusesUptoSaid : Prop := multiRefusesUptoRow.holds Tryz.pinned (OpenSpec.upto multiRefusesSpec)

/-- 'diapasonlaw23.FftSame', WHERE WHAT IT READS IS OF BULK AT MOST 1048576: true; the input reads as it did. -/
def fftSameUptoRow : OpenClaim := { program := "ytmgfaeineklccaagreat", sum := "aba63afcfb0a369f9285080e95a30dcf4c76aa4472d4d27fb11ca23ca6251771", func := "diapason/diapasonlaw23.FftSame", spec := "fftSame", inPlace := ["math.Float64frombits", "math.Float64bits"], unfollowed := true, recurses := true, named := ["math/bits.divideError", "math/bits.overflowError"], plainKeys := false, apart := false, narrowed := true }
def FftSameUptoSaid : Prop := fftSameUptoRow.holds Tryz.pinned (OpenSpec.upto fftSameSpec)

/-- 'diapasonlaw23.FftHistory', WHERE WHAT IT READS IS OF BULK AT MOST 1048576: true; the input reads as it did. -/
def fftHistoryUptoRow : OpenClaim := { program := "ytmgfaeineklccaagreat", sum := "aba63afcfb0a369f9285080e95a30dcf4c76aa4472d4d27fb11ca23ca6251771", func := "diapason/diapasonlaw23.FftHistory", spec := "fftHistory", inPlace := ["math.Float64bits", "math.Float64frombits"], unfollowed := true, recurses := true, named := ["math/bits.divideError", "math/bits.overflowError"], plainKeys := false, apart := false, narrowed := true }
def FftHistoryUptoSaid : Prop := fftHistoryUptoRow.holds Tryz.pinned (OpenSpec.upto fftHistorySpec)

end Rows
end Go.Proofs.YtmgfaeineklccaaGreat
