/- What every row of this seat asks of the whole program, once. -/
import Derived.Test.YtkjnlgbpfpkjhaaRows
import Derived.WalkKit
import Derived.ProofKit
import Derived.OpenShut
set_option linter.unusedSimpArgs false
namespace Go.Proofs.Ytkjnlgbpfpkjhaa

/-- The letters of the program's head word. -/
def signs : List Char := [
    104, 97, 114, 110, 101, 115, 115, 32, 57, 48, 57, 101, 98, 57, 53, 49, 98, 52, 49, 102, 48, 102, 52, 50, 57, 54, 53, 55, 56, 97, 51, 98, 51, 99, 52,
    50, 99, 57, 49, 57, 101, 99, 52, 49, 50, 54, 50, 54, 56, 49, 100, 53, 102, 98, 56, 97, 102, 97, 52, 53, 53, 51, 55, 100, 54, 57, 53, 53, 51, 53, 49,
    101, 32, 99, 117, 116, 32, 97, 116, 32, 100, 105, 97, 112, 97, 115, 111, 110, 47, 100, 105, 97, 112, 97, 115, 111, 110, 108, 97, 119, 48, 55, 46, 73,
    110, 100, 101, 120, 82, 101, 118, 101, 114, 115, 101, 32, 100, 105, 97, 112, 97, 115, 111, 110, 47, 100, 105, 97, 112, 97, 115, 111, 110, 108, 97,
    119, 48, 55, 46, 73, 110, 100, 101, 120, 67, 121, 99, 108, 101, 115, 32, 100, 105, 97, 112, 97, 115, 111, 110, 47, 100, 105, 97, 112, 97, 115, 111,
    110, 108, 97, 119, 48, 55, 46, 73, 110, 100, 101, 120, 68, 105, 103, 105, 116, 115, 32, 100, 105, 97, 112, 97, 115, 111, 110, 47, 100, 105, 97, 112,
    97, 115, 111, 110, 108, 97, 119, 48, 55, 46, 73, 110, 100, 101, 120, 84, 114, 97, 110, 115, 112, 111, 115, 101, 115, 32, 100, 105, 97, 112, 97, 115,
    111, 110, 47, 100, 105, 97, 112, 97, 115, 111, 110, 108, 97, 119, 48, 55, 46, 73, 110, 100, 101, 120, 66, 97, 99, 107, 32, 100, 105, 97, 112, 97, 115,
    111, 110, 47, 100, 105, 97, 112, 97, 115, 111, 110, 108, 97, 119, 48, 55, 46, 73, 110, 100, 101, 120, 83, 116, 114, 105, 100, 101, 115, 32, 100, 105,
    97, 112, 97, 115, 111, 110, 47, 100, 105, 97, 112, 97, 115, 111, 110, 108, 97, 119, 48, 55, 46, 73, 110, 100, 101, 120, 84, 104, 101, 114, 101].map Char.ofNat
set_option maxRecDepth 100000 in
theorem init_lit : Try.pinned.checked.prog.initOrder = String.ofList signs := by kernel_rfl
theorem init_list : Try.pinned.checked.prog.initOrder.toList = signs := by rw [init_lit]; exact String.toList_ofList
theorem words_cut : behindMainWord (wordsSigns Try.pinned.checked.prog.initOrder.toList) = "cut".toList :: (behindMainWord (wordsSigns signs)).tail := by
  rw [init_list]
  kernel_rfl
theorem may_cut (P : Program) (rest : List (List Char)) (h : behindMainWord (wordsSigns P.initOrder.toList) = "cut".toList :: rest) (h1 : P.laysLater = false) (h2 : P.bearsReflect = false) (h3 : P.doorFits [] = true) : P.mayEnter = true := by
  unfold Program.mayEnter
  rw [h]
  have e : stripLifts liftWords ("cut".toList :: rest) = ([], "cut".toList :: rest) := rfl
  simp only [e, h1, h2, h3]
  simp
theorem make_cut (P : Program) (rest : List (List Char)) (h : behindMainWord (wordsSigns P.initOrder.toList) = "cut".toList :: rest) : P.make = some .cut := by
  unfold Program.make
  rw [h]
  rfl
theorem final_cut (P : Program) (rest : List (List Char)) (h : behindMainWord (wordsSigns P.initOrder.toList) = "cut".toList :: rest) : P.liftsFinal = false := by
  unfold Program.liftsFinal Program.headLifts
  rw [h]
  rfl
theorem fact_may : Try.pinned.checked.prog.mayEnter = true := may_cut _ _ words_cut (by kernel_rfl) (by kernel_rfl) (by kernel_rfl)
theorem fact_final : (false == Try.pinned.checked.prog.liftsFinal) = true := by rw [final_cut _ _ words_cut]; rfl
theorem fact_make : (Try.pinned.checked.prog.make == some .cut) = true := by rw [make_cut _ _ words_cut]; rfl
theorem fact_laid : laidOutB Try.pinned.checked.prog = true := by kernel_rfl
theorem fact_maps : mapsRowed Try.pinned.checked.prog = true := by kernel_rfl
theorem fact_own : ownKnob Try.prog.godebug = none := by kernel_rfl
theorem fact_heard : Try.pinned.checked.prog.stopsHeard = true := by kernel_rfl
end Go.Proofs.Ytkjnlgbpfpkjhaa
