/- What every row of this seat asks of the whole program, once. -/
import Derived.Test.YteaimnemobnknaaRows
import Derived.WalkKit
import Derived.ProofKit
import Derived.OpenShut
set_option linter.unusedSimpArgs false
namespace Go.Proofs.Yteaimnemobnknaa

/-- The letters of the program's head word. -/
def signs : List Char := [
    104, 97, 114, 110, 101, 115, 115, 32, 53, 51, 49, 102, 56, 49, 51, 53, 98, 56, 102, 48, 101, 49, 57, 54, 54, 101, 50, 57, 55, 98, 102, 49, 54, 102,
    100, 55, 49, 51, 57, 55, 55, 101, 55, 52, 57, 50, 55, 52, 52, 53, 99, 102, 98, 100, 48, 56, 98, 49, 98, 57, 54, 99, 49, 101, 97, 55, 56, 101, 52, 54,
    49, 98, 32, 99, 117, 116, 32, 97, 116, 32, 100, 105, 97, 112, 97, 115, 111, 110, 47, 100, 105, 97, 112, 97, 115, 111, 110, 108, 97, 119, 49, 56, 46,
    82, 117, 110, 82, 101, 102, 117, 115, 101, 115, 32, 100, 105, 97, 112, 97, 115, 111, 110, 47, 100, 105, 97, 112, 97, 115, 111, 110, 108, 97, 119, 49,
    56, 46, 82, 117, 110, 82, 117, 110, 115, 32, 100, 105, 97, 112, 97, 115, 111, 110, 47, 100, 105, 97, 112, 97, 115, 111, 110, 108, 97, 119, 49, 56, 46,
    82, 117, 110, 76, 105, 110, 101, 97, 114, 32, 100, 105, 97, 112, 97, 115, 111, 110, 47, 100, 105, 97, 112, 97, 115, 111, 110, 108, 97, 119, 49, 56,
    46, 82, 117, 110, 84, 119, 105, 99, 101, 32, 100, 105, 97, 112, 97, 115, 111, 110, 47, 100, 105, 97, 112, 97, 115, 111, 110, 108, 97, 119, 49, 56, 46,
    82, 117, 110, 66, 97, 99, 107, 32, 100, 105, 97, 112, 97, 115, 111, 110, 47, 100, 105, 97, 112, 97, 115, 111, 110, 108, 97, 119, 49, 57, 46, 77, 111,
    100, 101, 108, 69, 120, 97, 99, 116, 32, 100, 105, 97, 112, 97, 115, 111, 110, 47, 100, 105, 97, 112, 97, 115, 111, 110, 108, 97, 119, 49, 57, 46, 77,
    111, 100, 101, 108, 82, 101, 102, 117, 115, 101, 115, 32, 100, 105, 97, 112, 97, 115, 111, 110, 47, 100, 105, 97, 112, 97, 115, 111, 110, 108, 97,
    119, 49, 57, 46, 77, 111, 100, 101, 108, 80, 97, 114, 115, 101, 118, 97, 108, 32, 100, 105, 97, 112, 97, 115, 111, 110, 47, 100, 105, 97, 112, 97,
    115, 111, 110, 108, 97, 119, 49, 57, 46, 77, 111, 100, 101, 108, 83, 104, 105, 102, 116, 32, 100, 105, 97, 112, 97, 115, 111, 110, 47, 100, 105, 97,
    112, 97, 115, 111, 110, 108, 97, 119, 49, 57, 46, 77, 111, 100, 101, 108, 65, 103, 114, 101, 101, 115].map Char.ofNat
set_option maxRecDepth 100000 in
theorem init_lit : Try.pinned.checked.prog.initOrder = String.ofList signs := by kernel_rfl
theorem init_list : Try.pinned.checked.prog.initOrder.toList = signs := by rw [init_lit]; exact String.toList_ofList
theorem words_cut : behindMainWord (wordsSigns Try.pinned.checked.prog.initOrder.toList) = "cut".toList :: (behindMainWord (wordsSigns signs)).tail := by
  rw [init_list]
  kernel_rfl
theorem may_cut (P : Program) (rest : List (List Char)) (h : behindMainWord (wordsSigns P.initOrder.toList) = "cut".toList :: rest) (h1 : P.laysLater = false) (h2 : P.bearsReflect = false) (h3 : P.doorFits [] = true) : P.mayEnter = true := by
  unfold Program.mayEnter
  rw [h]
  have e : stripLifts liftWords ("cut".toList :: rest) = ([], "cut".toList :: rest) := rfl
  simp only [e, h1, h2, h3]
  simp
theorem make_cut (P : Program) (rest : List (List Char)) (h : behindMainWord (wordsSigns P.initOrder.toList) = "cut".toList :: rest) : P.make = some .cut := by
  unfold Program.make
  rw [h]
  rfl
theorem final_cut (P : Program) (rest : List (List Char)) (h : behindMainWord (wordsSigns P.initOrder.toList) = "cut".toList :: rest) : P.liftsFinal = false := by
  unfold Program.liftsFinal Program.headLifts
  rw [h]
  rfl
theorem fact_may : Try.pinned.checked.prog.mayEnter = true := may_cut _ _ words_cut (by kernel_rfl) (by kernel_rfl) (by kernel_rfl)
theorem fact_final : (false == Try.pinned.checked.prog.liftsFinal) = true := by rw [final_cut _ _ words_cut]; rfl
theorem fact_make : (Try.pinned.checked.prog.make == some .cut) = true := by rw [make_cut _ _ words_cut]; rfl
theorem fact_laid : laidOutB Try.pinned.checked.prog = true := by kernel_rfl
theorem fact_maps : mapsRowed Try.pinned.checked.prog = true := by kernel_rfl
theorem fact_own : ownKnob Try.prog.godebug = none := by kernel_rfl
theorem fact_heard : Try.pinned.checked.prog.stopsHeard = true := by kernel_rfl
end Go.Proofs.Yteaimnemobnknaa
