/- What every row of this seat asks of the whole program, once. -/
import Derived.Test.YtnpkblidlmkagaaRows
import Derived.WalkKit
import Derived.ProofKit
import Derived.OpenShut
set_option linter.unusedSimpArgs false
namespace Go.Proofs.Ytnpkblidlmkagaa

/-- The letters of the program's head word. -/
def signs : List Char := [
    104, 97, 114, 110, 101, 115, 115, 32, 53, 100, 97, 51, 48, 52, 99, 102, 53, 52, 101, 48, 99, 53, 49, 51, 54, 56, 49, 57, 51, 101, 99, 50, 101, 48, 54,
    48, 51, 56, 51, 52, 97, 49, 55, 100, 100, 50, 51, 57, 51, 100, 98, 101, 54, 54, 56, 57, 48, 52, 53, 56, 51, 51, 99, 56, 53, 55, 100, 50, 48, 99, 50,
    53, 32, 99, 117, 116, 32, 97, 116, 32, 100, 105, 97, 112, 97, 115, 111, 110, 47, 100, 105, 97, 112, 97, 115, 111, 110, 108, 97, 119, 48, 52, 46, 68,
    68, 77, 97, 107, 101, 115, 32, 100, 105, 97, 112, 97, 115, 111, 110, 47, 100, 105, 97, 112, 97, 115, 111, 110, 108, 97, 119, 48, 52, 46, 68, 68, 70,
    108, 111, 97, 116, 115, 32, 100, 105, 97, 112, 97, 115, 111, 110, 47, 100, 105, 97, 112, 97, 115, 111, 110, 108, 97, 119, 48, 52, 46, 68, 68, 77, 117,
    108, 115, 32, 100, 105, 97, 112, 97, 115, 111, 110, 47, 100, 105, 97, 112, 97, 115, 111, 110, 108, 97, 119, 48, 52, 46, 68, 68, 65, 100, 100, 115, 32,
    100, 105, 97, 112, 97, 115, 111, 110, 47, 100, 105, 97, 112, 97, 115, 111, 110, 108, 97, 119, 48, 52, 46, 68, 68, 81, 117, 111, 115, 32, 100, 105, 97,
    112, 97, 115, 111, 110, 47, 100, 105, 97, 112, 97, 115, 111, 110, 108, 97, 119, 48, 53, 46, 84, 114, 105, 103, 79, 99, 116, 97, 110, 116, 115, 32,
    100, 105, 97, 112, 97, 115, 111, 110, 47, 100, 105, 97, 112, 97, 115, 111, 110, 108, 97, 119, 48, 53, 46, 84, 114, 105, 103, 84, 117, 114, 110, 101,
    100, 32, 100, 105, 97, 112, 97, 115, 111, 110, 47, 100, 105, 97, 112, 97, 115, 111, 110, 108, 97, 119, 48, 53, 46, 84, 114, 105, 103, 69, 120, 97, 99,
    116, 32, 100, 105, 97, 112, 97, 115, 111, 110, 47, 100, 105, 97, 112, 97, 115, 111, 110, 108, 97, 119, 48, 53, 46, 84, 114, 105, 103, 84, 117, 114,
    110, 115, 32, 100, 105, 97, 112, 97, 115, 111, 110, 47, 100, 105, 97, 112, 97, 115, 111, 110, 108, 97, 119, 48, 53, 46, 84, 114, 105, 103, 67, 105,
    114, 99, 108, 101, 32, 100, 105, 97, 112, 97, 115, 111, 110, 47, 100, 105, 97, 112, 97, 115, 111, 110, 108, 97, 119, 48, 53, 46, 84, 114, 105, 103,
    65, 100, 100, 115, 32, 100, 105, 97, 112, 97, 115, 111, 110, 47, 100, 105, 97, 112, 97, 115, 111, 110, 108, 97, 119, 48, 51, 46, 69, 102, 116, 83,
    117, 109, 115, 32, 100, 105, 97, 112, 97, 115, 111, 110, 47, 100, 105, 97, 112, 97, 115, 111, 110, 108, 97, 119, 48, 51, 46, 69, 102, 116, 77, 105,
    108, 100, 32, 100, 105, 97, 112, 97, 115, 111, 110, 47, 100, 105, 97, 112, 97, 115, 111, 110, 108, 97, 119, 48, 51, 46, 69, 102, 116, 84, 111, 112,
    115, 32, 100, 105, 97, 112, 97, 115, 111, 110, 47, 100, 105, 97, 112, 97, 115, 111, 110, 108, 97, 119, 48, 51, 46, 69, 102, 116, 83, 112, 108, 105,
    116, 115, 32, 100, 105, 97, 112, 97, 115, 111, 110, 47, 100, 105, 97, 112, 97, 115, 111, 110, 108, 97, 119, 48, 51, 46, 69, 102, 116, 80, 114, 111,
    100, 115, 32, 100, 105, 97, 112, 97, 115, 111, 110, 47, 100, 105, 97, 112, 97, 115, 111, 110, 108, 97, 119, 48, 51, 46, 69, 102, 116, 84, 117, 114,
    110, 101, 100, 32, 100, 105, 97, 112, 97, 115, 111, 110, 47, 100, 105, 97, 112, 97, 115, 111, 110, 108, 97, 119, 49, 53, 46, 67, 97, 99, 104, 101, 84,
    97, 98, 108, 101, 115, 32, 100, 105, 97, 112, 97, 115, 111, 110, 47, 100, 105, 97, 112, 97, 115, 111, 110, 108, 97, 119, 49, 53, 46, 67, 97, 99, 104,
    101, 82, 111, 111, 109, 32, 100, 105, 97, 112, 97, 115, 111, 110, 47, 100, 105, 97, 112, 97, 115, 111, 110, 108, 97, 119, 49, 53, 46, 67, 97, 99, 104,
    101, 82, 111, 111, 116, 115, 32, 100, 105, 97, 112, 97, 115, 111, 110, 47, 100, 105, 97, 112, 97, 115, 111, 110, 108, 97, 119, 49, 53, 46, 67, 97, 99,
    104, 101, 75, 101, 101, 112, 115, 32, 100, 105, 97, 112, 97, 115, 111, 110, 47, 100, 105, 97, 112, 97, 115, 111, 110, 108, 97, 119, 49, 53, 46, 67,
    97, 99, 104, 101, 84, 119, 105, 110, 115].map Char.ofNat
set_option maxRecDepth 100000 in
theorem init_lit : Try.pinned.checked.prog.initOrder = String.ofList signs := by kernel_rfl
theorem init_list : Try.pinned.checked.prog.initOrder.toList = signs := by rw [init_lit]; exact String.toList_ofList
theorem words_cut : behindMainWord (wordsSigns Try.pinned.checked.prog.initOrder.toList) = "cut".toList :: (behindMainWord (wordsSigns signs)).tail := by
  rw [init_list]
  kernel_rfl
theorem may_cut (P : Program) (rest : List (List Char)) (h : behindMainWord (wordsSigns P.initOrder.toList) = "cut".toList :: rest) (h1 : P.laysLater = false) (h2 : P.bearsReflect = false) (h3 : P.doorFits [] = true) : P.mayEnter = true := by
  unfold Program.mayEnter
  rw [h]
  have e : stripLifts liftWords ("cut".toList :: rest) = ([], "cut".toList :: rest) := rfl
  simp only [e, h1, h2, h3]
  simp
theorem make_cut (P : Program) (rest : List (List Char)) (h : behindMainWord (wordsSigns P.initOrder.toList) = "cut".toList :: rest) : P.make = some .cut := by
  unfold Program.make
  rw [h]
  rfl
theorem final_cut (P : Program) (rest : List (List Char)) (h : behindMainWord (wordsSigns P.initOrder.toList) = "cut".toList :: rest) : P.liftsFinal = false := by
  unfold Program.liftsFinal Program.headLifts
  rw [h]
  rfl
theorem fact_may : Try.pinned.checked.prog.mayEnter = true := may_cut _ _ words_cut (by kernel_rfl) (by kernel_rfl) (by kernel_rfl)
theorem fact_final : (false == Try.pinned.checked.prog.liftsFinal) = true := by rw [final_cut _ _ words_cut]; rfl
theorem fact_make : (Try.pinned.checked.prog.make == some .cut) = true := by rw [make_cut _ _ words_cut]; rfl
theorem fact_laid : laidOutB Try.pinned.checked.prog = true := by kernel_rfl
theorem fact_maps : mapsRowed Try.pinned.checked.prog = true := by kernel_rfl
theorem fact_own : ownKnob Try.prog.godebug = none := by kernel_rfl
theorem fact_heard : Try.pinned.checked.prog.stopsHeard = true := by kernel_rfl
end Go.Proofs.Ytnpkblidlmkagaa
