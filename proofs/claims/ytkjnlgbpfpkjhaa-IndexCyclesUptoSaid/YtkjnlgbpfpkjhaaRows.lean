/-
  No cell of these rows narrows 'for every input' (looked for: loops, veiled, ifaces, maps, wideKeys, modest, calm, conditions, laid).
  DERIVED. THE GIVEN ROWS OF THIS SEAT. 7 by the template 'for every input the law returns true; each argument reads behind the call as it read before'; 0 by the template 'total and deterministic' (their statements: YtkjnlgbpfpkjhaaTotals.lean).
  GIVEN WITH THE SEED: the statements are not yours to turn. If you find one false, say at which input.
  Laid BY PROGRAM, IN A SANDBOX (cutbox-rows.mjs): the forced cells as the released guide's own fill.sh prints them over the translation 93cf34808f3b4e87… (all of the seat's roots in one cut). By AI agents, Wed Nov 11 2026. No macro, syntax, notation, axiom, sorry.
-/
import Derived.Test.YtkjnlgbpfpkjhaaChecked
import GoSem.Claim
import GoSem.ClaimJoined
import GoSem.ClaimMapViews
import Derived.JoinedTies
import Derived.KernelRfl
namespace Go.Proofs.Ytkjnlgbpfpkjhaa
/- THE CELL 'sum', in the pinned program and in every row, IS THE sha256 OF THE DUMP (.gsa) THAT YtkjnlgbpfpkjhaaProg.lean LOADS. Nothing in Lean hashes anything: it is a label: what it is worth is what the hold of that sum in a sandbox is worth. -/
noncomputable def Try.pinned : Pinned := { name := "ytkjnlgbpfpkjhaa", sum := "93cf34808f3b4e87a49503cf8e464752cc8cf7e254bc8b78366ead02e7b6cce0", checked := Try.checked }
namespace Rows
def none {H : Type} : Left H := { results := [], args := [] }

/-- 'diapasonlaw07.IndexReverse': WHATEVER THE INPUT: true; the input reads as it did. -/
def indexReverseSpec : ChangeSpec := { name := "indexReverse", fn := fun _ => fun
  | [d] => { results := [.lit (.bool true)], args := [d] }
  | _ => none }
def indexReverseRow : OpenClaim := { program := "ytkjnlgbpfpkjhaa", sum := "93cf34808f3b4e87a49503cf8e464752cc8cf7e254bc8b78366ead02e7b6cce0", func := "diapason/diapasonlaw07.IndexReverse", spec := "indexReverse", unfollowed := true, recurses := true, apart := false }
def IndexReverseSaid : Prop := indexReverseRow.holds Try.pinned (OpenSpec.ofChange indexReverseSpec)

/-- ITS FALSE NEIGHBOUR: 'it returns false'. Refute it at one input. -/
def indexReverseWrong : ChangeSpec := { name := "indexReverse", fn := fun _ => fun
  | [d] => { results := [.lit (.bool false)], args := [d] }
  | _ => none }
def IndexReverseWrongFalsely : Prop := indexReverseRow.holds Try.pinned (OpenSpec.ofChange indexReverseWrong)

/-- 'diapasonlaw07.IndexCycles': WHATEVER THE INPUT: true; the input reads as it did. -/
def indexCyclesSpec : ChangeSpec := { name := "indexCycles", fn := fun _ => fun
  | [d] => { results := [.lit (.bool true)], args := [d] }
  | _ => none }
def indexCyclesRow : OpenClaim := { program := "ytkjnlgbpfpkjhaa", sum := "93cf34808f3b4e87a49503cf8e464752cc8cf7e254bc8b78366ead02e7b6cce0", func := "diapason/diapasonlaw07.IndexCycles", spec := "indexCycles", unfollowed := true, recurses := true, apart := false }
def IndexCyclesSaid : Prop := indexCyclesRow.holds Try.pinned (OpenSpec.ofChange indexCyclesSpec)

/-- ITS FALSE NEIGHBOUR: 'it returns false'. Refute it at one input. -/
def indexCyclesWrong : ChangeSpec := { name := "indexCycles", fn := fun _ => fun
  | [d] => { results := [.lit (.bool false)], args := [d] }
  | _ => none }
def IndexCyclesWrongFalsely : Prop := indexCyclesRow.holds Try.pinned (OpenSpec.ofChange indexCyclesWrong)

/-- 'diapasonlaw07.IndexDigits': WHATEVER THE INPUT: true; the input reads as it did. -/
def indexDigitsSpec : ChangeSpec := { name := "indexDigits", fn := fun _ => fun
  | [d1, d2, d3] => { results := [.lit (.bool true)], args := [d1, d2, d3] }
  | _ => none }
def indexDigitsRow : OpenClaim := { program := "ytkjnlgbpfpkjhaa", sum := "93cf34808f3b4e87a49503cf8e464752cc8cf7e254bc8b78366ead02e7b6cce0", func := "diapason/diapasonlaw07.IndexDigits", spec := "indexDigits", unfollowed := true, recurses := true, apart := false }
def IndexDigitsSaid : Prop := indexDigitsRow.holds Try.pinned (OpenSpec.ofChange indexDigitsSpec)

/-- ITS FALSE NEIGHBOUR: 'it returns false'. Refute it at one input. -/
def indexDigitsWrong : ChangeSpec := { name := "indexDigits", fn := fun _ => fun
  | [d1, d2, d3] => { results := [.lit (.bool false)], args := [d1, d2, d3] }
  | _ => none }
def IndexDigitsWrongFalsely : Prop := indexDigitsRow.holds Try.pinned (OpenSpec.ofChange indexDigitsWrong)

/-- 'diapasonlaw07.IndexTransposes': WHATEVER THE INPUT: true; the input reads as it did. -/
def indexTransposesSpec : ChangeSpec := { name := "indexTransposes", fn := fun _ => fun
  | [d1, d2, d3] => { results := [.lit (.bool true)], args := [d1, d2, d3] }
  | _ => none }
def indexTransposesRow : OpenClaim := { program := "ytkjnlgbpfpkjhaa", sum := "93cf34808f3b4e87a49503cf8e464752cc8cf7e254bc8b78366ead02e7b6cce0", func := "diapason/diapasonlaw07.IndexTransposes", spec := "indexTransposes", unfollowed := true, recurses := true, apart := false }
def IndexTransposesSaid : Prop := indexTransposesRow.holds Try.pinned (OpenSpec.ofChange indexTransposesSpec)

/-- ITS FALSE NEIGHBOUR: 'it returns false'. Refute it at one input. -/
def indexTransposesWrong : ChangeSpec := { name := "indexTransposes", fn := fun _ => fun
  | [d1, d2, d3] => { results := [.lit (.bool false)], args := [d1, d2, d3] }
  | _ => none }
def IndexTransposesWrongFalsely : Prop := indexTransposesRow.holds Try.pinned (OpenSpec.ofChange indexTransposesWrong)

/-- 'diapasonlaw07.IndexBack': WHATEVER THE INPUT: true; the input reads as it did. -/
def indexBackSpec : ChangeSpec := { name := "indexBack", fn := fun _ => fun
  | [d1, d2] => { results := [.lit (.bool true)], args := [d1, d2] }
  | _ => none }
def indexBackRow : OpenClaim := { program := "ytkjnlgbpfpkjhaa", sum := "93cf34808f3b4e87a49503cf8e464752cc8cf7e254bc8b78366ead02e7b6cce0", func := "diapason/diapasonlaw07.IndexBack", spec := "indexBack", unfollowed := true, recurses := true, apart := false }
def IndexBackSaid : Prop := indexBackRow.holds Try.pinned (OpenSpec.ofChange indexBackSpec)

/-- ITS FALSE NEIGHBOUR: 'it returns false'. Refute it at one input. -/
def indexBackWrong : ChangeSpec := { name := "indexBack", fn := fun _ => fun
  | [d1, d2] => { results := [.lit (.bool false)], args := [d1, d2] }
  | _ => none }
def IndexBackWrongFalsely : Prop := indexBackRow.holds Try.pinned (OpenSpec.ofChange indexBackWrong)

/-- 'diapasonlaw07.IndexStrides': WHATEVER THE INPUT: true; the input reads as it did. -/
def indexStridesSpec : ChangeSpec := { name := "indexStrides", fn := fun _ => fun
  | [d1, d2, d3] => { results := [.lit (.bool true)], args := [d1, d2, d3] }
  | _ => none }
def indexStridesRow : OpenClaim := { program := "ytkjnlgbpfpkjhaa", sum := "93cf34808f3b4e87a49503cf8e464752cc8cf7e254bc8b78366ead02e7b6cce0", func := "diapason/diapasonlaw07.IndexStrides", spec := "indexStrides", unfollowed := true, recurses := true, apart := false }
def IndexStridesSaid : Prop := indexStridesRow.holds Try.pinned (OpenSpec.ofChange indexStridesSpec)

/-- ITS FALSE NEIGHBOUR: 'it returns false'. Refute it at one input. -/
def indexStridesWrong : ChangeSpec := { name := "indexStrides", fn := fun _ => fun
  | [d1, d2, d3] => { results := [.lit (.bool false)], args := [d1, d2, d3] }
  | _ => none }
def IndexStridesWrongFalsely : Prop := indexStridesRow.holds Try.pinned (OpenSpec.ofChange indexStridesWrong)

/-- 'diapasonlaw07.IndexThere': WHATEVER THE INPUT: true; the input reads as it did. -/
def indexThereSpec : ChangeSpec := { name := "indexThere", fn := fun _ => fun
  | [d1, d2] => { results := [.lit (.bool true)], args := [d1, d2] }
  | _ => none }
def indexThereRow : OpenClaim := { program := "ytkjnlgbpfpkjhaa", sum := "93cf34808f3b4e87a49503cf8e464752cc8cf7e254bc8b78366ead02e7b6cce0", func := "diapason/diapasonlaw07.IndexThere", spec := "indexThere", unfollowed := true, recurses := true, apart := false }
def IndexThereSaid : Prop := indexThereRow.holds Try.pinned (OpenSpec.ofChange indexThereSpec)

/-- ITS FALSE NEIGHBOUR: 'it returns false'. Refute it at one input. -/
def indexThereWrong : ChangeSpec := { name := "indexThere", fn := fun _ => fun
  | [d1, d2] => { results := [.lit (.bool false)], args := [d1, d2] }
  | _ => none }
def IndexThereWrongFalsely : Prop := indexThereRow.holds Try.pinned (OpenSpec.ofChange indexThereWrong)

/- THE SECOND FORM. 'bulk': how many values and letters a reading holds, each counted each time it is reached (what is shared counts as often as it is met; a slice's spare places count too). A statement '..UptoSaid' is the law's where the arguments, and the package variables that the reading takes, are together of bulk at most 1048576: NARROWER than '..Said'. Prove '..Said' where nothing that the law and all that it calls make is longer than what came in: it says more and counts as full. Else prove '..UptoSaid'. A law counts once. -/
mutual
def uptoBulk {H : Type} : DataW H → Nat
  | .lit (.string bytes) => bytes.length + 1
  | .lit _ => 1
  | .nil => 1
  | .ptr d => uptoBulk d + 1
  | .slice elems spare => uptoBulkAll elems + uptoBulkAll spare + 1
  | .agg parts => uptoBulkAll parts + 1
  | .iface _ d => uptoBulk d + 1
  | .map entries => uptoBulkEntries entries + 1
  | .held _ => 1
def uptoBulkAll {H : Type} : List (DataW H) → Nat
  | [] => 0
  | d :: r => uptoBulk d + uptoBulkAll r
def uptoBulkEntries {H : Type} : List (Lit × DataW H) → Nat
  | [] => 0
  | x :: r => uptoBulkEntry x + uptoBulkEntries r
def uptoBulkEntry {H : Type} : Lit × DataW H → Nat
  | (.string bytes, d) => bytes.length + uptoBulk d + 1
  | (_, d) => uptoBulk d + 1
 end
def uptoSmall : (H : Type) → List (DataW H) → Bool := fun _ ds => decide (uptoBulkAll ds ≤ 1048576)
def OpenSpec.upto (s : _root_.Go.ChangeSpec) : _root_.Go.OpenSpec := { _root_.Go.OpenSpec.ofChange s with cond := some uptoSmall }

/-- 'diapasonlaw07.IndexReverse', WHERE WHAT IT READS IS OF BULK AT MOST 1048576: true; the input reads as it did. -/
def indexReverseUptoRow : OpenClaim := { program := "ytkjnlgbpfpkjhaa", sum := "93cf34808f3b4e87a49503cf8e464752cc8cf7e254bc8b78366ead02e7b6cce0", func := "diapason/diapasonlaw07.IndexReverse", spec := "indexReverse", unfollowed := true, recurses := true, apart := false, narrowed := true }
def IndexReverseUptoSaid : Prop := indexReverseUptoRow.holds Try.pinned (OpenSpec.upto indexReverseSpec)

/-- 'diapasonlaw07.IndexCycles', WHERE WHAT IT READS IS OF BULK AT MOST 1048576: true; the input reads as it did. -/
def indexCyclesUptoRow : OpenClaim := { program := "ytkjnlgbpfpkjhaa", sum := "93cf34808f3b4e87a49503cf8e464752cc8cf7e254bc8b78366ead02e7b6cce0", func := "diapason/diapasonlaw07.IndexCycles", spec := "indexCycles", unfollowed := true, recurses := true, apart := false, narrowed := true }
def IndexCyclesUptoSaid : Prop := indexCyclesUptoRow.holds Try.pinned (OpenSpec.upto indexCyclesSpec)

/-- 'diapasonlaw07.IndexDigits', WHERE WHAT IT READS IS OF BULK AT MOST 1048576: true; the input reads as it did. -/
def indexDigitsUptoRow : OpenClaim := { program := "ytkjnlgbpfpkjhaa", sum := "93cf34808f3b4e87a49503cf8e464752cc8cf7e254bc8b78366ead02e7b6cce0", func := "diapason/diapasonlaw07.IndexDigits", spec := "indexDigits", unfollowed := true, recurses := true, apart := false, narrowed := true }
def IndexDigitsUptoSaid : Prop := indexDigitsUptoRow.holds Try.pinned (OpenSpec.upto indexDigitsSpec)

/-- 'diapasonlaw07.IndexTransposes', WHERE WHAT IT READS IS OF BULK AT MOST 1048576: true; the input reads as it did. -/
def indexTransposesUptoRow : OpenClaim := { program := "ytkjnlgbpfpkjhaa", sum := "93cf34808f3b4e87a49503cf8e464752cc8cf7e254bc8b78366ead02e7b6cce0", func := "diapason/diapasonlaw07.IndexTransposes", spec := "indexTransposes", unfollowed := true, recurses := true, apart := false, narrowed := true }
def IndexTransposesUptoSaid : Prop := indexTransposesUptoRow.holds Try.pinned (OpenSpec.upto indexTransposesSpec)

/-- 'diapasonlaw07.IndexBack', WHERE WHAT IT READS IS OF BULK AT MOST 1048576: true; the input reads as it did. -/
def indexBackUptoRow : OpenClaim := { program := "ytkjnlgbpfpkjhaa", sum := "93cf34808f3b4e87a49503cf8e464752cc8cf7e254bc8b78366ead02e7b6cce0", func := "diapason/diapasonlaw07.IndexBack", spec := "indexBack", unfollowed := true, recurses := true, apart := false, narrowed := true }
def IndexBackUptoSaid : Prop := indexBackUptoRow.holds Try.pinned (OpenSpec.upto indexBackSpec)

/-- 'diapasonlaw07.IndexStrides', WHERE WHAT IT READS IS OF BULK AT MOST 1048576: true; the input reads as it did. -/
def indexStridesUptoRow : OpenClaim := { program := "ytkjnlgbpfpkjhaa", sum := "93cf34808f3b4e87a49503cf8e464752cc8cf7e254bc8b78366ead02e7b6cce0", func := "diapason/diapasonlaw07.IndexStrides", spec := "indexStrides", unfollowed := true, recurses := true, apart := false, narrowed := true }
def IndexStridesUptoSaid : Prop := indexStridesUptoRow.holds Try.pinned (OpenSpec.upto indexStridesSpec)

/-- 'diapasonlaw07.IndexThere', WHERE WHAT IT READS IS OF BULK AT MOST 1048576: true; the input reads as it did. -/
def indexThereUptoRow : OpenClaim := { program := "ytkjnlgbpfpkjhaa", sum := "93cf34808f3b4e87a49503cf8e464752cc8cf7e254bc8b78366ead02e7b6cce0", func := "diapason/diapasonlaw07.IndexThere", spec := "indexThere", unfollowed := true, recurses := true, apart := false, narrowed := true }
def IndexThereUptoSaid : Prop := indexThereUptoRow.holds Try.pinned (OpenSpec.upto indexThereSpec)

end Rows
end Go.Proofs.Ytkjnlgbpfpkjhaa
