/- exec's ring as a ring. -/
import Derived.Test.YtbobmhobaaeohaaQ8
import Derived.Shelf.Abstract
set_option linter.unusedSimpArgs false
set_option linter.unusedVariables false
namespace Go.Proofs.Ytbobmhobaaeohaa
open Go.RowKit Go.Lib

theorem xnil_Zero (r : Nat) (w : World) : (nilAhead 251 61 (.agg #[.map (some r)]) "Zero").run Try.prog w = .ok (some false) w := by kernel_rfl
theorem xmet_Zero (r : Nat) (w : World) : (method 251 61 (.agg #[.map (some r)]) "Zero").run Try.prog w = .ok (98, .agg #[.map (some r)]) w := by kernel_rfl
theorem xent_Zero (args : Array Value) (w : World) : (callFunc 98 args).run Try.prog w = .ok (.enter 98 args) w := enters_of Try.func98 (by kernel_rfl) rfl args w
theorem xnil_Add (r : Nat) (w : World) : (nilAhead 251 61 (.agg #[.map (some r)]) "Add").run Try.prog w = .ok (some false) w := by kernel_rfl
theorem xmet_Add (r : Nat) (w : World) : (method 251 61 (.agg #[.map (some r)]) "Add").run Try.prog w = .ok (93, .agg #[.map (some r)]) w := by kernel_rfl
theorem xent_Add (args : Array Value) (w : World) : (callFunc 93 args).run Try.prog w = .ok (.enter 93 args) w := enters_of Try.func93 (by kernel_rfl) rfl args w
theorem xnil_Sub (r : Nat) (w : World) : (nilAhead 251 61 (.agg #[.map (some r)]) "Sub").run Try.prog w = .ok (some false) w := by kernel_rfl
theorem xmet_Sub (r : Nat) (w : World) : (method 251 61 (.agg #[.map (some r)]) "Sub").run Try.prog w = .ok (97, .agg #[.map (some r)]) w := by kernel_rfl
theorem xent_Sub (args : Array Value) (w : World) : (callFunc 97 args).run Try.prog w = .ok (.enter 97 args) w := enters_of Try.func97 (by kernel_rfl) rfl args w
theorem xnil_Mul (r : Nat) (w : World) : (nilAhead 251 61 (.agg #[.map (some r)]) "Mul").run Try.prog w = .ok (some false) w := by kernel_rfl
theorem xmet_Mul (r : Nat) (w : World) : (method 251 61 (.agg #[.map (some r)]) "Mul").run Try.prog w = .ok (94, .agg #[.map (some r)]) w := by kernel_rfl
theorem xent_Mul (args : Array Value) (w : World) : (callFunc 94 args).run Try.prog w = .ok (.enter 94 args) w := enters_of Try.func94 (by kernel_rfl) rfl args w
theorem xnil_Over (r : Nat) (w : World) : (nilAhead 251 61 (.agg #[.map (some r)]) "Over").run Try.prog w = .ok (some false) w := by kernel_rfl
theorem xmet_Over (r : Nat) (w : World) : (method 251 61 (.agg #[.map (some r)]) "Over").run Try.prog w = .ok (95, .agg #[.map (some r)]) w := by kernel_rfl
theorem xent_Over (args : Array Value) (w : World) : (callFunc 95 args).run Try.prog w = .ok (.enter 95 args) w := enters_of Try.func95 (by kernel_rfl) rfl args w
theorem xnil_Root (r : Nat) (w : World) : (nilAhead 251 61 (.agg #[.map (some r)]) "Root").run Try.prog w = .ok (some false) w := by kernel_rfl
theorem xmet_Root (r : Nat) (w : World) : (method 251 61 (.agg #[.map (some r)]) "Root").run Try.prog w = .ok (96, .agg #[.map (some r)]) w := by kernel_rfl
theorem xent_Root (args : Array Value) (w : World) : (callFunc 96 args).run Try.prog w = .ok (.enter 96 args) w := enters_of Try.func96 (by kernel_rfl) rfl args w
/-- What complex floats reckon. -/
def ringR : Rg Cx := ⟨(0, 0), cadd, csub, cmul, cover, croot⟩
def ringC (r : Nat) : RingC := ⟨61, .agg #[.map (some r)], 98, 93, 97, 94, 95, 96, ringR⟩
theorem ringC_ok (r : Nat) : (ringC r).Ok (XM r) where
  mem := XM_ok r
  nz := xnil_Zero r
  mz := xmet_Zero r
  cz := xent_Zero
  na := xnil_Add r
  ma := xmet_Add r
  ca := xent_Add
  ns := xnil_Sub r
  ms := xmet_Sub r
  cs := xent_Sub
  nm := xnil_Mul r
  mm := xmet_Mul r
  cm := xent_Mul
  no := xnil_Over r
  mo := xmet_Over r
  co := xent_Over
  nr := xnil_Root r
  mr := xmet_Root r
  cr := xent_Root
  zero w h := (ringZero_any r w).mono fun z w' k => ⟨k.1, ((XM_ok r).on_refl h).below (XM_ok r) k.2⟩
  add a b w h := (ringAdd_any r a b w).mono fun z w' k => ⟨k.1, ((XM_ok r).on_refl h).below (XM_ok r) k.2⟩
  sub a b w h := (ringSub_any r a b w).mono fun z w' k => ⟨k.1, ((XM_ok r).on_refl h).below (XM_ok r) k.2⟩
  mul a b w h := (ringMul_any r a b w).mono fun z w' k => ⟨k.1, ((XM_ok r).on_refl h).below (XM_ok r) k.2⟩
  over a n w n1 n2 h := (ringOver_any r a n w n1 n2).mono fun z w' k => ⟨k.1, ((XM_ok r).on_refl h).below (XM_ok r) k.2⟩
  root k n w k1 k2 n1 n2 h := ringRoot_any r k n w k1 k2 n1 n2 h
  z0 := rfl
end Go.Proofs.Ytbobmhobaaeohaa
