/- What every row of this seat asks of the whole program, once. -/
import Derived.Test.YtfedabinindpbaaGreatRows
import Derived.WalkKit
import Derived.ProofKit
import Derived.OpenShut
set_option linter.unusedSimpArgs false
namespace Go.Proofs.YtfedabinindpbaaGreat

/-- The letters of the program's head word. -/
def signs : List Char := [
    104, 97, 114, 110, 101, 115, 115, 32, 51, 50, 55, 53, 53, 100, 52, 52, 54, 97, 51, 100, 99, 54, 56, 53, 49, 97, 100, 49, 98, 48, 97, 48, 98, 49, 49,
    49, 49, 55, 49, 56, 102, 51, 98, 50, 102, 54, 50, 97, 49, 50, 52, 51, 101, 52, 101, 102, 49, 50, 53, 49, 99, 57, 102, 56, 50, 52, 57, 99, 48, 52, 57,
    53, 32, 99, 117, 116, 32, 97, 116, 32, 100, 105, 97, 112, 97, 115, 111, 110, 47, 100, 105, 97, 112, 97, 115, 111, 110, 108, 97, 119, 50, 48, 46, 69,
    120, 101, 99, 76, 101, 110, 103, 116, 104, 115, 32, 100, 105, 97, 112, 97, 115, 111, 110, 47, 100, 105, 97, 112, 97, 115, 111, 110, 108, 97, 119, 50,
    48, 46, 69, 120, 101, 99, 66, 111, 117, 110, 100, 32, 100, 105, 97, 112, 97, 115, 111, 110, 47, 100, 105, 97, 112, 97, 115, 111, 110, 108, 97, 119,
    50, 49, 46, 82, 101, 97, 108, 70, 111, 114, 119, 97, 114, 100, 32, 100, 105, 97, 112, 97, 115, 111, 110, 47, 100, 105, 97, 112, 97, 115, 111, 110,
    108, 97, 119, 50, 49, 46, 82, 101, 97, 108, 66, 97, 99, 107, 119, 97, 114, 100].map Char.ofNat
set_option maxRecDepth 100000 in
theorem init_lit : Tryz.pinned.checked.prog.initOrder = String.ofList signs := by kernel_rfl
theorem init_list : Tryz.pinned.checked.prog.initOrder.toList = signs := by rw [init_lit]; exact String.toList_ofList
theorem words_cut : behindMainWord (wordsSigns Tryz.pinned.checked.prog.initOrder.toList) = "cut".toList :: (behindMainWord (wordsSigns signs)).tail := by
  rw [init_list]
  kernel_rfl
theorem may_cut (P : Program) (rest : List (List Char)) (h : behindMainWord (wordsSigns P.initOrder.toList) = "cut".toList :: rest) (h1 : P.laysLater = false) (h2 : P.bearsReflect = false) (h3 : P.doorFits [] = true) : P.mayEnter = true := by
  unfold Program.mayEnter
  rw [h]
  have e : stripLifts liftWords ("cut".toList :: rest) = ([], "cut".toList :: rest) := rfl
  simp only [e, h1, h2, h3]
  simp
theorem make_cut (P : Program) (rest : List (List Char)) (h : behindMainWord (wordsSigns P.initOrder.toList) = "cut".toList :: rest) : P.make = some .cut := by
  unfold Program.make
  rw [h]
  rfl
theorem final_cut (P : Program) (rest : List (List Char)) (h : behindMainWord (wordsSigns P.initOrder.toList) = "cut".toList :: rest) : P.liftsFinal = false := by
  unfold Program.liftsFinal Program.headLifts
  rw [h]
  rfl
theorem fact_may : Tryz.pinned.checked.prog.mayEnter = true := may_cut _ _ words_cut (by kernel_rfl) (by kernel_rfl) (by kernel_rfl)
theorem fact_final : (false == Tryz.pinned.checked.prog.liftsFinal) = true := by rw [final_cut _ _ words_cut]; rfl
theorem fact_make : (Tryz.pinned.checked.prog.make == some .cut) = true := by rw [make_cut _ _ words_cut]; rfl
theorem fact_laid : laidOutB Tryz.pinned.checked.prog = true := by kernel_rfl
theorem fact_maps : mapsRowed Tryz.pinned.checked.prog = true := by kernel_rfl
theorem fact_own : ownKnob Tryz.prog.godebug = none := by kernel_rfl
theorem fact_heard : Tryz.pinned.checked.prog.stopsHeard = true := by kernel_rfl
end Go.Proofs.YtfedabinindpbaaGreat
