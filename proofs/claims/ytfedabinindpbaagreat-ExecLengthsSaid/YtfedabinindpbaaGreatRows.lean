/-
  No cell of these rows narrows 'for every input' (looked for: loops, veiled, ifaces, maps, wideKeys, modest, calm, conditions, laid).
  DERIVED. THE GIVEN ROWS OF THIS SEAT. 4 by the template 'for every input the law returns true; each argument reads behind the call as it read before'; 0 by the template 'total and deterministic' (their statements: YtfedabinindpbaaGreatTotals.lean).
  GIVEN WITH THE SEED: the statements are not yours to turn. If you find one false, say at which input.
  Laid BY PROGRAM, IN A SANDBOX (cutbox-rows.mjs): the forced cells as the released guide's own fill.sh prints them over the translation 3f46571fccdf4445… (all of the seat's roots in one cut). By AI agents, Wed Nov 11 2026. No macro, syntax, notation, axiom, sorry.
-/
import Derived.Test.YtfedabinindpbaaGreatChecked
import GoSem.Claim
import GoSem.ClaimJoined
import GoSem.ClaimMapViews
import Derived.JoinedTies
import Derived.KernelRfl
namespace Go.Proofs.YtfedabinindpbaaGreat
/- THE CELL 'sum', in the pinned program and in every row, IS THE sha256 OF THE DUMP (.gsa) THAT YtfedabinindpbaaGreatProg.lean LOADS. Nothing in Lean hashes anything: it is a label: what it is worth is what the hold of that sum in a sandbox is worth. -/
noncomputable def Tryz.pinned : Pinned := { name := "ytfedabinindpbaagreat", sum := "3f46571fccdf4445bceb02e64469581a4bc46fa161845b95047658244557e8b0", checked := Tryz.checked }
namespace Rows
def none {H : Type} : Left H := { results := [], args := [] }

/-- 'diapasonlaw20.ExecLengths': WHATEVER THE INPUT: true; the input reads as it did. -/
def execLengthsSpec : ChangeSpec := { name := "execLengths", fn := fun _ => fun
  | [d] => { results := [.lit (.bool true)], args := [d] }
  | _ => none }
def execLengthsRow : OpenClaim := { program := "ytfedabinindpbaagreat", sum := "3f46571fccdf4445bceb02e64469581a4bc46fa161845b95047658244557e8b0", func := "diapason/diapasonlaw20.ExecLengths", spec := "execLengths", inPlace := ["math.Float64frombits", "math.Float64bits", "math.sqrt"], unfollowed := true, recurses := true, named := ["math/bits.divideError", "math/bits.overflowError"], apart := false }
def ExecLengthsSaid : Prop := execLengthsRow.holds Tryz.pinned (OpenSpec.ofChange execLengthsSpec)

/-- ITS FALSE NEIGHBOUR: 'it returns false'. Refute it at one input. -/
def execLengthsWrong : ChangeSpec := { name := "execLengths", fn := fun _ => fun
  | [d] => { results := [.lit (.bool false)], args := [d] }
  | _ => none }
def ExecLengthsWrongFalsely : Prop := execLengthsRow.holds Tryz.pinned (OpenSpec.ofChange execLengthsWrong)

/-- 'diapasonlaw20.ExecBound': WHATEVER THE INPUT: true; the input reads as it did. -/
def execBoundSpec : ChangeSpec := { name := "execBound", fn := fun _ => fun
  | [d1, d2, d3] => { results := [.lit (.bool true)], args := [d1, d2, d3] }
  | _ => none }
def execBoundRow : OpenClaim := { program := "ytfedabinindpbaagreat", sum := "3f46571fccdf4445bceb02e64469581a4bc46fa161845b95047658244557e8b0", func := "diapason/diapasonlaw20.ExecBound", spec := "execBound", inPlace := ["math.Float64bits", "math.Float64frombits", "math.sqrt"], unfollowed := true, recurses := true, named := ["math/bits.divideError", "math/bits.overflowError"], apart := false }
def ExecBoundSaid : Prop := execBoundRow.holds Tryz.pinned (OpenSpec.ofChange execBoundSpec)

/-- ITS FALSE NEIGHBOUR: 'it returns false'. Refute it at one input. -/
def execBoundWrong : ChangeSpec := { name := "execBound", fn := fun _ => fun
  | [d1, d2, d3] => { results := [.lit (.bool false)], args := [d1, d2, d3] }
  | _ => none }
def ExecBoundWrongFalsely : Prop := execBoundRow.holds Tryz.pinned (OpenSpec.ofChange execBoundWrong)

/-- 'diapasonlaw21.RealForward': WHATEVER THE INPUT: true; the input reads as it did. -/
def realForwardSpec : ChangeSpec := { name := "realForward", fn := fun _ => fun
  | [d1, d2, d3] => { results := [.lit (.bool true)], args := [d1, d2, d3] }
  | _ => none }
def realForwardRow : OpenClaim := { program := "ytfedabinindpbaagreat", sum := "3f46571fccdf4445bceb02e64469581a4bc46fa161845b95047658244557e8b0", func := "diapason/diapasonlaw21.RealForward", spec := "realForward", inPlace := ["math.Float64bits", "math.Float64frombits", "math.sqrt"], unfollowed := true, recurses := true, named := ["math/bits.divideError", "math/bits.overflowError"], apart := false }
def RealForwardSaid : Prop := realForwardRow.holds Tryz.pinned (OpenSpec.ofChange realForwardSpec)

/-- ITS FALSE NEIGHBOUR: 'it returns false'. Refute it at one input. -/
def realForwardWrong : ChangeSpec := { name := "realForward", fn := fun _ => fun
  | [d1, d2, d3] => { results := [.lit (.bool false)], args := [d1, d2, d3] }
  | _ => none }
def RealForwardWrongFalsely : Prop := realForwardRow.holds Tryz.pinned (OpenSpec.ofChange realForwardWrong)

/-- 'diapasonlaw21.RealBackward': WHATEVER THE INPUT: true; the input reads as it did. -/
def realBackwardSpec : ChangeSpec := { name := "realBackward", fn := fun _ => fun
  | [d1, d2, d3] => { results := [.lit (.bool true)], args := [d1, d2, d3] }
  | _ => none }
def realBackwardRow : OpenClaim := { program := "ytfedabinindpbaagreat", sum := "3f46571fccdf4445bceb02e64469581a4bc46fa161845b95047658244557e8b0", func := "diapason/diapasonlaw21.RealBackward", spec := "realBackward", inPlace := ["math.Float64bits", "math.Float64frombits", "math.sqrt"], unfollowed := true, recurses := true, named := ["math/bits.divideError", "math/bits.overflowError"], apart := false }
def RealBackwardSaid : Prop := realBackwardRow.holds Tryz.pinned (OpenSpec.ofChange realBackwardSpec)

/-- ITS FALSE NEIGHBOUR: 'it returns false'. Refute it at one input. -/
def realBackwardWrong : ChangeSpec := { name := "realBackward", fn := fun _ => fun
  | [d1, d2, d3] => { results := [.lit (.bool false)], args := [d1, d2, d3] }
  | _ => none }
def RealBackwardWrongFalsely : Prop := realBackwardRow.holds Tryz.pinned (OpenSpec.ofChange realBackwardWrong)

/- THE SECOND FORM. 'bulk': how many values and letters a reading holds, each counted each time it is reached (what is shared counts as often as it is met; a slice's spare places count too). A statement '..UptoSaid' is the law's where the arguments, and the package variables that the reading takes, are together of bulk at most 1048576: NARROWER than '..Said'. Prove '..Said' where nothing that the law and all that it calls make is longer than what came in: it says more and counts as full. Else prove '..UptoSaid'. A law counts once. -/
mutual
def uptoBulk {H : Type} : DataW H → Nat
  | .lit (.string bytes) => bytes.length + 1
  | .lit _ => 1
  | .nil => 1
  | .ptr d => uptoBulk d + 1
  | .slice elems spare => uptoBulkAll elems + uptoBulkAll spare + 1
  | .agg parts => uptoBulkAll parts + 1
  | .iface _ d => uptoBulk d + 1
  | .map entries => uptoBulkEntries entries + 1
  | .held _ => 1
def uptoBulkAll {H : Type} : List (DataW H) → Nat
  | [] => 0
  | d :: r => uptoBulk d + uptoBulkAll r
def uptoBulkEntries {H : Type} : List (Lit × DataW H) → Nat
  | [] => 0
  | x :: r => uptoBulkEntry x + uptoBulkEntries r
def uptoBulkEntry {H : Type} : Lit × DataW H → Nat
  | (.string bytes, d) => bytes.length + uptoBulk d + 1
  | (_, d) => uptoBulk d + 1
 end
def uptoSmall : (H : Type) → List (DataW H) → Bool := fun _ ds => decide (uptoBulkAll ds ≤ 1048576)
def OpenSpec.upto (s : _root_.Go.ChangeSpec) : _root_.Go.OpenSpec := { _root_.Go.OpenSpec.ofChange s with cond := some uptoSmall }

/-- 'diapasonlaw20.ExecLengths', WHERE WHAT IT READS IS OF BULK AT MOST 1048576: true; the input reads as it did. -/
def execLengthsUptoRow : OpenClaim := { program := "ytfedabinindpbaagreat", sum := "3f46571fccdf4445bceb02e64469581a4bc46fa161845b95047658244557e8b0", func := "diapason/diapasonlaw20.ExecLengths", spec := "execLengths", inPlace := ["math.Float64frombits", "math.Float64bits", "math.sqrt"], unfollowed := true, recurses := true, named := ["math/bits.divideError", "math/bits.overflowError"], apart := false, narrowed := true }
def ExecLengthsUptoSaid : Prop := execLengthsUptoRow.holds Tryz.pinned (OpenSpec.upto execLengthsSpec)

/-- 'diapasonlaw20.ExecBound', WHERE WHAT IT READS IS OF BULK AT MOST 1048576: true; the input reads as it did. -/
def execBoundUptoRow : OpenClaim := { program := "ytfedabinindpbaagreat", sum := "3f46571fccdf4445bceb02e64469581a4bc46fa161845b95047658244557e8b0", func := "diapason/diapasonlaw20.ExecBound", spec := "execBound", inPlace := ["math.Float64bits", "math.Float64frombits", "math.sqrt"], unfollowed := true, recurses := true, named := ["math/bits.divideError", "math/bits.overflowError"], apart := false, narrowed := true }
def ExecBoundUptoSaid : Prop := execBoundUptoRow.holds Tryz.pinned (OpenSpec.upto execBoundSpec)

/-- 'diapasonlaw21.RealForward', WHERE WHAT IT READS IS OF BULK AT MOST 1048576: true; the input reads as it did. -/
def realForwardUptoRow : OpenClaim := { program := "ytfedabinindpbaagreat", sum := "3f46571fccdf4445bceb02e64469581a4bc46fa161845b95047658244557e8b0", func := "diapason/diapasonlaw21.RealForward", spec := "realForward", inPlace := ["math.Float64bits", "math.Float64frombits", "math.sqrt"], unfollowed := true, recurses := true, named := ["math/bits.divideError", "math/bits.overflowError"], apart := false, narrowed := true }
def RealForwardUptoSaid : Prop := realForwardUptoRow.holds Tryz.pinned (OpenSpec.upto realForwardSpec)

/-- 'diapasonlaw21.RealBackward', WHERE WHAT IT READS IS OF BULK AT MOST 1048576: true; the input reads as it did. -/
def realBackwardUptoRow : OpenClaim := { program := "ytfedabinindpbaagreat", sum := "3f46571fccdf4445bceb02e64469581a4bc46fa161845b95047658244557e8b0", func := "diapason/diapasonlaw21.RealBackward", spec := "realBackward", inPlace := ["math.Float64bits", "math.Float64frombits", "math.sqrt"], unfollowed := true, recurses := true, named := ["math/bits.divideError", "math/bits.overflowError"], apart := false, narrowed := true }
def RealBackwardUptoSaid : Prop := realBackwardUptoRow.holds Tryz.pinned (OpenSpec.upto realBackwardSpec)

end Rows
end Go.Proofs.YtfedabinindpbaaGreat
