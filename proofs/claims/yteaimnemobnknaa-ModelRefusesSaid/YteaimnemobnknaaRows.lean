/-
  No cell of these rows narrows 'for every input' (looked for: loops, veiled, ifaces, maps, wideKeys, modest, calm, conditions, laid).
  DERIVED. THE GIVEN ROWS OF THIS SEAT. 10 by the template 'for every input the law returns true; each argument reads behind the call as it read before'; 0 by the template 'total and deterministic' (their statements: YteaimnemobnknaaTotals.lean).
  GIVEN WITH THE SEED: the statements are not yours to turn. If you find one false, say at which input.
  Laid BY PROGRAM, IN A SANDBOX (cutbox-rows.mjs): the forced cells as the released guide's own fill.sh prints them over the translation 11431a4db3c2d3bb… (all of the seat's roots in one cut). By AI agents, Wed Nov 11 2026. No macro, syntax, notation, axiom, sorry.
-/
import Derived.Test.YteaimnemobnknaaChecked
import GoSem.Claim
import GoSem.ClaimJoined
import GoSem.ClaimMapViews
import Derived.JoinedTies
import Derived.KernelRfl
namespace Go.Proofs.Yteaimnemobnknaa
/- THE CELL 'sum', in the pinned program and in every row, IS THE sha256 OF THE DUMP (.gsa) THAT YteaimnemobnknaaProg.lean LOADS. Nothing in Lean hashes anything: it is a label: what it is worth is what the hold of that sum in a sandbox is worth. -/
noncomputable def Try.pinned : Pinned := { name := "yteaimnemobnknaa", sum := "11431a4db3c2d3bb66d5c57487253ca1f05595a0f2261c544e6d04e354421908", checked := Try.checked }
namespace Rows
def none {H : Type} : Left H := { results := [], args := [] }

/-- 'diapasonlaw18.RunRefuses': WHATEVER THE INPUT: true; the input reads as it did. -/
def runRefusesSpec : ChangeSpec := { name := "runRefuses", fn := fun _ => fun
  | [d1, d2, d3] => { results := [.lit (.bool true)], args := [d1, d2, d3] }
  | _ => none }
def runRefusesRow : OpenClaim := { program := "yteaimnemobnknaa", sum := "11431a4db3c2d3bb66d5c57487253ca1f05595a0f2261c544e6d04e354421908", func := "diapason/diapasonlaw18.RunRefuses", spec := "runRefuses", unfollowed := true, recurses := true, named := ["math/bits.divideError", "math/bits.overflowError"], apart := false }
def RunRefusesSaid : Prop := runRefusesRow.holds Try.pinned (OpenSpec.ofChange runRefusesSpec)

/-- ITS FALSE NEIGHBOUR: 'it returns false'. Refute it at one input. -/
def runRefusesWrong : ChangeSpec := { name := "runRefuses", fn := fun _ => fun
  | [d1, d2, d3] => { results := [.lit (.bool false)], args := [d1, d2, d3] }
  | _ => none }
def RunRefusesWrongFalsely : Prop := runRefusesRow.holds Try.pinned (OpenSpec.ofChange runRefusesWrong)

/-- 'diapasonlaw18.RunRuns': WHATEVER THE INPUT: true; the input reads as it did. -/
def runRunsSpec : ChangeSpec := { name := "runRuns", fn := fun _ => fun
  | [d1, d2, d3] => { results := [.lit (.bool true)], args := [d1, d2, d3] }
  | _ => none }
def runRunsRow : OpenClaim := { program := "yteaimnemobnknaa", sum := "11431a4db3c2d3bb66d5c57487253ca1f05595a0f2261c544e6d04e354421908", func := "diapason/diapasonlaw18.RunRuns", spec := "runRuns", unfollowed := true, recurses := true, named := ["math/bits.divideError", "math/bits.overflowError"], apart := false }
def RunRunsSaid : Prop := runRunsRow.holds Try.pinned (OpenSpec.ofChange runRunsSpec)

/-- ITS FALSE NEIGHBOUR: 'it returns false'. Refute it at one input. -/
def runRunsWrong : ChangeSpec := { name := "runRuns", fn := fun _ => fun
  | [d1, d2, d3] => { results := [.lit (.bool false)], args := [d1, d2, d3] }
  | _ => none }
def RunRunsWrongFalsely : Prop := runRunsRow.holds Try.pinned (OpenSpec.ofChange runRunsWrong)

/-- 'diapasonlaw18.RunLinear': WHATEVER THE INPUT: true; the input reads as it did. -/
def runLinearSpec : ChangeSpec := { name := "runLinear", fn := fun _ => fun
  | [d1, d2, d3] => { results := [.lit (.bool true)], args := [d1, d2, d3] }
  | _ => none }
def runLinearRow : OpenClaim := { program := "yteaimnemobnknaa", sum := "11431a4db3c2d3bb66d5c57487253ca1f05595a0f2261c544e6d04e354421908", func := "diapason/diapasonlaw18.RunLinear", spec := "runLinear", unfollowed := true, recurses := true, named := ["math/bits.divideError", "math/bits.overflowError"], apart := false }
def RunLinearSaid : Prop := runLinearRow.holds Try.pinned (OpenSpec.ofChange runLinearSpec)

/-- ITS FALSE NEIGHBOUR: 'it returns false'. Refute it at one input. -/
def runLinearWrong : ChangeSpec := { name := "runLinear", fn := fun _ => fun
  | [d1, d2, d3] => { results := [.lit (.bool false)], args := [d1, d2, d3] }
  | _ => none }
def RunLinearWrongFalsely : Prop := runLinearRow.holds Try.pinned (OpenSpec.ofChange runLinearWrong)

/-- 'diapasonlaw18.RunTwice': WHATEVER THE INPUT: true; the input reads as it did. -/
def runTwiceSpec : ChangeSpec := { name := "runTwice", fn := fun _ => fun
  | [d1, d2, d3] => { results := [.lit (.bool true)], args := [d1, d2, d3] }
  | _ => none }
def runTwiceRow : OpenClaim := { program := "yteaimnemobnknaa", sum := "11431a4db3c2d3bb66d5c57487253ca1f05595a0f2261c544e6d04e354421908", func := "diapason/diapasonlaw18.RunTwice", spec := "runTwice", unfollowed := true, recurses := true, named := ["math/bits.divideError", "math/bits.overflowError"], apart := false }
def RunTwiceSaid : Prop := runTwiceRow.holds Try.pinned (OpenSpec.ofChange runTwiceSpec)

/-- ITS FALSE NEIGHBOUR: 'it returns false'. Refute it at one input. -/
def runTwiceWrong : ChangeSpec := { name := "runTwice", fn := fun _ => fun
  | [d1, d2, d3] => { results := [.lit (.bool false)], args := [d1, d2, d3] }
  | _ => none }
def RunTwiceWrongFalsely : Prop := runTwiceRow.holds Try.pinned (OpenSpec.ofChange runTwiceWrong)

/-- 'diapasonlaw18.RunBack': WHATEVER THE INPUT: true; the input reads as it did. -/
def runBackSpec : ChangeSpec := { name := "runBack", fn := fun _ => fun
  | [d1, d2, d3] => { results := [.lit (.bool true)], args := [d1, d2, d3] }
  | _ => none }
def runBackRow : OpenClaim := { program := "yteaimnemobnknaa", sum := "11431a4db3c2d3bb66d5c57487253ca1f05595a0f2261c544e6d04e354421908", func := "diapason/diapasonlaw18.RunBack", spec := "runBack", unfollowed := true, recurses := true, named := ["math/bits.divideError", "math/bits.overflowError"], apart := false }
def RunBackSaid : Prop := runBackRow.holds Try.pinned (OpenSpec.ofChange runBackSpec)

/-- ITS FALSE NEIGHBOUR: 'it returns false'. Refute it at one input. -/
def runBackWrong : ChangeSpec := { name := "runBack", fn := fun _ => fun
  | [d1, d2, d3] => { results := [.lit (.bool false)], args := [d1, d2, d3] }
  | _ => none }
def RunBackWrongFalsely : Prop := runBackRow.holds Try.pinned (OpenSpec.ofChange runBackWrong)

/-- 'diapasonlaw19.ModelExact': WHATEVER THE INPUT: true; the input reads as it did. -/
def modelExactSpec : ChangeSpec := { name := "modelExact", fn := fun _ => fun
  | [d1, d2, d3] => { results := [.lit (.bool true)], args := [d1, d2, d3] }
  | _ => none }
def modelExactRow : OpenClaim := { program := "yteaimnemobnknaa", sum := "11431a4db3c2d3bb66d5c57487253ca1f05595a0f2261c544e6d04e354421908", func := "diapason/diapasonlaw19.ModelExact", spec := "modelExact", unfollowed := true, recurses := true, named := ["math/bits.divideError", "math/bits.overflowError"], apart := false }
def ModelExactSaid : Prop := modelExactRow.holds Try.pinned (OpenSpec.ofChange modelExactSpec)

/-- ITS FALSE NEIGHBOUR: 'it returns false'. Refute it at one input. -/
def modelExactWrong : ChangeSpec := { name := "modelExact", fn := fun _ => fun
  | [d1, d2, d3] => { results := [.lit (.bool false)], args := [d1, d2, d3] }
  | _ => none }
def ModelExactWrongFalsely : Prop := modelExactRow.holds Try.pinned (OpenSpec.ofChange modelExactWrong)

/-- 'diapasonlaw19.ModelRefuses': WHATEVER THE INPUT: true; the input reads as it did. -/
def modelRefusesSpec : ChangeSpec := { name := "modelRefuses", fn := fun _ => fun
  | [d1, d2, d3] => { results := [.lit (.bool true)], args := [d1, d2, d3] }
  | _ => none }
def modelRefusesRow : OpenClaim := { program := "yteaimnemobnknaa", sum := "11431a4db3c2d3bb66d5c57487253ca1f05595a0f2261c544e6d04e354421908", func := "diapason/diapasonlaw19.ModelRefuses", spec := "modelRefuses", unfollowed := true, recurses := true, named := ["math/bits.divideError", "math/bits.overflowError"], apart := false }
def ModelRefusesSaid : Prop := modelRefusesRow.holds Try.pinned (OpenSpec.ofChange modelRefusesSpec)

/-- ITS FALSE NEIGHBOUR: 'it returns false'. Refute it at one input. -/
def modelRefusesWrong : ChangeSpec := { name := "modelRefuses", fn := fun _ => fun
  | [d1, d2, d3] => { results := [.lit (.bool false)], args := [d1, d2, d3] }
  | _ => none }
def ModelRefusesWrongFalsely : Prop := modelRefusesRow.holds Try.pinned (OpenSpec.ofChange modelRefusesWrong)

/-- 'diapasonlaw19.ModelParseval': WHATEVER THE INPUT: true; the input reads as it did. -/
def modelParsevalSpec : ChangeSpec := { name := "modelParseval", fn := fun _ => fun
  | [d1, d2, d3] => { results := [.lit (.bool true)], args := [d1, d2, d3] }
  | _ => none }
def modelParsevalRow : OpenClaim := { program := "yteaimnemobnknaa", sum := "11431a4db3c2d3bb66d5c57487253ca1f05595a0f2261c544e6d04e354421908", func := "diapason/diapasonlaw19.ModelParseval", spec := "modelParseval", unfollowed := true, recurses := true, named := ["math/bits.divideError", "math/bits.overflowError"], apart := false }
def ModelParsevalSaid : Prop := modelParsevalRow.holds Try.pinned (OpenSpec.ofChange modelParsevalSpec)

/-- ITS FALSE NEIGHBOUR: 'it returns false'. Refute it at one input. -/
def modelParsevalWrong : ChangeSpec := { name := "modelParseval", fn := fun _ => fun
  | [d1, d2, d3] => { results := [.lit (.bool false)], args := [d1, d2, d3] }
  | _ => none }
def ModelParsevalWrongFalsely : Prop := modelParsevalRow.holds Try.pinned (OpenSpec.ofChange modelParsevalWrong)

/-- 'diapasonlaw19.ModelShift': WHATEVER THE INPUT: true; the input reads as it did. -/
def modelShiftSpec : ChangeSpec := { name := "modelShift", fn := fun _ => fun
  | [d1, d2, d3] => { results := [.lit (.bool true)], args := [d1, d2, d3] }
  | _ => none }
def modelShiftRow : OpenClaim := { program := "yteaimnemobnknaa", sum := "11431a4db3c2d3bb66d5c57487253ca1f05595a0f2261c544e6d04e354421908", func := "diapason/diapasonlaw19.ModelShift", spec := "modelShift", unfollowed := true, recurses := true, named := ["math/bits.divideError", "math/bits.overflowError"], apart := false }
def ModelShiftSaid : Prop := modelShiftRow.holds Try.pinned (OpenSpec.ofChange modelShiftSpec)

/-- ITS FALSE NEIGHBOUR: 'it returns false'. Refute it at one input. -/
def modelShiftWrong : ChangeSpec := { name := "modelShift", fn := fun _ => fun
  | [d1, d2, d3] => { results := [.lit (.bool false)], args := [d1, d2, d3] }
  | _ => none }
def ModelShiftWrongFalsely : Prop := modelShiftRow.holds Try.pinned (OpenSpec.ofChange modelShiftWrong)

/-- 'diapasonlaw19.ModelAgrees': WHATEVER THE INPUT: true; the input reads as it did. -/
def modelAgreesSpec : ChangeSpec := { name := "modelAgrees", fn := fun _ => fun
  | [d1, d2, d3] => { results := [.lit (.bool true)], args := [d1, d2, d3] }
  | _ => none }
def modelAgreesRow : OpenClaim := { program := "yteaimnemobnknaa", sum := "11431a4db3c2d3bb66d5c57487253ca1f05595a0f2261c544e6d04e354421908", func := "diapason/diapasonlaw19.ModelAgrees", spec := "modelAgrees", unfollowed := true, recurses := true, named := ["math/bits.divideError", "math/bits.overflowError"], apart := false }
def ModelAgreesSaid : Prop := modelAgreesRow.holds Try.pinned (OpenSpec.ofChange modelAgreesSpec)

/-- ITS FALSE NEIGHBOUR: 'it returns false'. Refute it at one input. -/
def modelAgreesWrong : ChangeSpec := { name := "modelAgrees", fn := fun _ => fun
  | [d1, d2, d3] => { results := [.lit (.bool false)], args := [d1, d2, d3] }
  | _ => none }
def ModelAgreesWrongFalsely : Prop := modelAgreesRow.holds Try.pinned (OpenSpec.ofChange modelAgreesWrong)

/- THE SECOND FORM. 'bulk': how many values and letters a reading holds, each counted each time it is reached (what is shared counts as often as it is met; a slice's spare places count too). A statement '..UptoSaid' is the law's where the arguments, and the package variables that the reading takes, are together of bulk at most 1048576: NARROWER than '..Said'. Prove '..Said' where nothing that the law and all that it calls make is longer than what came in: it says more and counts as full. Else prove '..UptoSaid'. A law counts once. -/
mutual
def uptoBulk {H : Type} : DataW H → Nat
  | .lit (.string bytes) => bytes.length + 1
  | .lit _ => 1
  | .nil => 1
  | .ptr d => uptoBulk d + 1
  | .slice elems spare => uptoBulkAll elems + uptoBulkAll spare + 1
  | .agg parts => uptoBulkAll parts + 1
  | .iface _ d => uptoBulk d + 1
  | .map entries => uptoBulkEntries entries + 1
  | .held _ => 1
def uptoBulkAll {H : Type} : List (DataW H) → Nat
  | [] => 0
  | d :: r => uptoBulk d + uptoBulkAll r
def uptoBulkEntries {H : Type} : List (Lit × DataW H) → Nat
  | [] => 0
  | x :: r => uptoBulkEntry x + uptoBulkEntries r
def uptoBulkEntry {H : Type} : Lit × DataW H → Nat
  | (.string bytes, d) => bytes.length + uptoBulk d + 1
  | (_, d) => uptoBulk d + 1
 end
def uptoSmall : (H : Type) → List (DataW H) → Bool := fun _ ds => decide (uptoBulkAll ds ≤ 1048576)
def OpenSpec.upto (s : _root_.Go.ChangeSpec) : _root_.Go.OpenSpec := { _root_.Go.OpenSpec.ofChange s with cond := some uptoSmall }

/-- 'diapasonlaw18.RunRefuses', WHERE WHAT IT READS IS OF BULK AT MOST 1048576: true; the input reads as it did. -/
def runRefusesUptoRow : OpenClaim := { program := "yteaimnemobnknaa", sum := "11431a4db3c2d3bb66d5c57487253ca1f05595a0f2261c544e6d04e354421908", func := "diapason/diapasonlaw18.RunRefuses", spec := "runRefuses", unfollowed := true, recurses := true, named := ["math/bits.divideError", "math/bits.overflowError"], apart := false, narrowed := true }
def RunRefusesUptoSaid : Prop := runRefusesUptoRow.holds Try.pinned (OpenSpec.upto runRefusesSpec)

/-- 'diapasonlaw18.RunRuns', WHERE WHAT IT READS IS OF BULK AT MOST 1048576: true; the input reads as it did. -/
def runRunsUptoRow : OpenClaim := { program := "yteaimnemobnknaa", sum := "11431a4db3c2d3bb66d5c57487253ca1f05595a0f2261c544e6d04e354421908", func := "diapason/diapasonlaw18.RunRuns", spec := "runRuns", unfollowed := true, recurses := true, named := ["math/bits.divideError", "math/bits.overflowError"], apart := false, narrowed := true }
def RunRunsUptoSaid : Prop := runRunsUptoRow.holds Try.pinned (OpenSpec.upto runRunsSpec)

/-- 'diapasonlaw18.RunLinear', WHERE WHAT IT READS IS OF BULK AT MOST 1048576: true; the input reads as it did. -/
def runLinearUptoRow : OpenClaim := { program := "yteaimnemobnknaa", sum := "11431a4db3c2d3bb66d5c57487253ca1f05595a0f2261c544e6d04e354421908", func := "diapason/diapasonlaw18.RunLinear", spec := "runLinear", unfollowed := true, recurses := true, named := ["math/bits.divideError", "math/bits.overflowError"], apart := false, narrowed := true }
def RunLinearUptoSaid : Prop := runLinearUptoRow.holds Try.pinned (OpenSpec.upto runLinearSpec)

/-- 'diapasonlaw18.RunTwice', WHERE WHAT IT READS IS OF BULK AT MOST 1048576: true; the input reads as it did. -/
def runTwiceUptoRow : OpenClaim := { program := "yteaimnemobnknaa", sum := "11431a4db3c2d3bb66d5c57487253ca1f05595a0f2261c544e6d04e354421908", func := "diapason/diapasonlaw18.RunTwice", spec := "runTwice", unfollowed := true, recurses := true, named := ["math/bits.divideError", "math/bits.overflowError"], apart := false, narrowed := true }
def RunTwiceUptoSaid : Prop := runTwiceUptoRow.holds Try.pinned (OpenSpec.upto runTwiceSpec)

/-- 'diapasonlaw18.RunBack', WHERE WHAT IT READS IS OF BULK AT MOST 1048576: true; the input reads as it did. -/
def runBackUptoRow : OpenClaim := { program := "yteaimnemobnknaa", sum := "11431a4db3c2d3bb66d5c57487253ca1f05595a0f2261c544e6d04e354421908", func := "diapason/diapasonlaw18.RunBack", spec := "runBack", unfollowed := true, recurses := true, named := ["math/bits.divideError", "math/bits.overflowError"], apart := false, narrowed := true }
def RunBackUptoSaid : Prop := runBackUptoRow.holds Try.pinned (OpenSpec.upto runBackSpec)

/-- 'diapasonlaw19.ModelExact', WHERE WHAT IT READS IS OF BULK AT MOST 1048576: true; the input reads as it did. -/
def modelExactUptoRow : OpenClaim := { program := "yteaimnemobnknaa", sum := "11431a4db3c2d3bb66d5c57487253ca1f05595a0f2261c544e6d04e354421908", func := "diapason/diapasonlaw19.ModelExact", spec := "modelExact", unfollowed := true, recurses := true, named := ["math/bits.divideError", "math/bits.overflowError"], apart := false, narrowed := true }
def ModelExactUptoSaid : Prop := modelExactUptoRow.holds Try.pinned (OpenSpec.upto modelExactSpec)

/-- 'diapasonlaw19.ModelRefuses', WHERE WHAT IT READS IS OF BULK AT MOST 1048576: true; the input reads as it did. -/
def modelRefusesUptoRow : OpenClaim := { program := "yteaimnemobnknaa", sum := "11431a4db3c2d3bb66d5c57487253ca1f05595a0f2261c544e6d04e354421908", func := "diapason/diapasonlaw19.ModelRefuses", spec := "modelRefuses", unfollowed := true, recurses := true, named := ["math/bits.divideError", "math/bits.overflowError"], apart := false, narrowed := true }
def ModelRefusesUptoSaid : Prop := modelRefusesUptoRow.holds Try.pinned (OpenSpec.upto modelRefusesSpec)

/-- 'diapasonlaw19.ModelParseval', WHERE WHAT IT READS IS OF BULK AT MOST 1048576: true; the input reads as it did. -/
def modelParsevalUptoRow : OpenClaim := { program := "yteaimnemobnknaa", sum := "11431a4db3c2d3bb66d5c57487253ca1f05595a0f2261c544e6d04e354421908", func := "diapason/diapasonlaw19.ModelParseval", spec := "modelParseval", unfollowed := true, recurses := true, named := ["math/bits.divideError", "math/bits.overflowError"], apart := false, narrowed := true }
def ModelParsevalUptoSaid : Prop := modelParsevalUptoRow.holds Try.pinned (OpenSpec.upto modelParsevalSpec)

/-- 'diapasonlaw19.ModelShift', WHERE WHAT IT READS IS OF BULK AT MOST 1048576: true; the input reads as it did. -/
def modelShiftUptoRow : OpenClaim := { program := "yteaimnemobnknaa", sum := "11431a4db3c2d3bb66d5c57487253ca1f05595a0f2261c544e6d04e354421908", func := "diapason/diapasonlaw19.ModelShift", spec := "modelShift", unfollowed := true, recurses := true, named := ["math/bits.divideError", "math/bits.overflowError"], apart := false, narrowed := true }
def ModelShiftUptoSaid : Prop := modelShiftUptoRow.holds Try.pinned (OpenSpec.upto modelShiftSpec)

/-- 'diapasonlaw19.ModelAgrees', WHERE WHAT IT READS IS OF BULK AT MOST 1048576: true; the input reads as it did. -/
def modelAgreesUptoRow : OpenClaim := { program := "yteaimnemobnknaa", sum := "11431a4db3c2d3bb66d5c57487253ca1f05595a0f2261c544e6d04e354421908", func := "diapason/diapasonlaw19.ModelAgrees", spec := "modelAgrees", unfollowed := true, recurses := true, named := ["math/bits.divideError", "math/bits.overflowError"], apart := false, narrowed := true }
def ModelAgreesUptoSaid : Prop := modelAgreesUptoRow.holds Try.pinned (OpenSpec.upto modelAgreesSpec)

end Rows
end Go.Proofs.Yteaimnemobnknaa
