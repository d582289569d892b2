/- IndexCyclesUptoSaid (P7.5): every permutation has the document's circles, every other list none.
   Conditions: what comes in is of bulk at most 1048576. -/
import Derived.Test.YtkjnlgbpfpkjhaaL7
import Derived.Test.YtkjnlgbpfpkjhaaShape
import Derived.Test.YtkjnlgbpfpkjhaaFacts
import Derived.Test.YtkjnlgbpfpkjhaaBulk
import Derived.Test.YtkjnlgbpfpkjhaaRows
import Derived.WalkKit
import Derived.ProofKit
import Derived.OpenShut
import Derived.JoinedCond
namespace Go.Proofs.Ytkjnlgbpfpkjhaa.indexCyclesUpto
open Go.ChangeShapes Go.WideShapes Go.ChangeAt Go.RowKit
set_option linter.unusedVariables false

theorem contract (H : Type) (enc : TypeId × Value → H) (W : World) (base : Nat) (args : Array Value) (ds gs : List (DataW H)) (before : List MemPlace)
    (hval0 : ∀ (j : Nat) t v, Try.f4.params[j]? = some t → args[j]? = some v → Value.okWide Try.prog W .any base t v)
    (hW : DataW.Whole enc Try.prog Try.f4.params.toList Rows.indexCyclesSpec.vars false W args.toList ds gs before) (hk : Rows.uptoSmall H (ds ++ gs) = true) :
    Calls Try.prog 4 args W fun e W' => ∃ v, e = .returned v ∧ Rows.indexCyclesSpec.post enc Try.prog Try.f4 false true false false W args v W' := by
  have hval : ∀ (j : Nat) t v, Try.f4.params[j]? = some t → args[j]? = some v → Value.okWide Try.prog W .any base t v := hval0
  have hW' := hW
  obtain ⟨p, q, hA0, hV, rfl, hfz, hnd⟩ := hW
  have hA : DataW.TrodAll enc Try.prog W 0 (fun _ => true) true Try.f4.params.toList args.toList ds p := hA0
  rw [Try.params4] at hA hval
  clear hA0
  obtain ⟨v0, vs0, d0, ds0, p0, q0, hargs, rfl, rfl, h0, r0⟩ := trodAll_cons hA
  obtain ⟨rfl, rfl, rfl⟩ := trodAll_nil r0
  obtain rfl : args = #[v0] := by cases args; simp_all
  obtain ⟨rfl, rfl⟩ := trodVars_none hV
  obtain ⟨A0, n0, c0, f0, rfl, hA0, hn0, hd0, hz0⟩ := shape_ints (hval 0 22 v0 rfl rfl) h0
  have hr0 : n0 ≤ 1048576 := Nat.le_trans hd0 (bulks.short hk (by simp))
  clear hval0
  simp only [List.append_nil] at hW'
  have l0 : ∀ x ∈ p0, x.block < W.heap.size := fun x hx => by simpa using hW'.lt x (by simp [hx])
  refine (indexCycles_all A0 n0 c0 f0 W hA0 hr0).mono fun e W' ⟨he, hg⟩ => ?_
  subst he
  exact ⟨_, rfl, _, _, _, [], p0 ++ [], [], hW', trodAll_cons_mk (shut_bool Try.underlying4 _) trodAll_mk0, trodAll_cons_mk (Below.trod fact_laid (by kernel_rfl) (of_decide_eq_true (by kernel_rfl)) h0 hg l0) trodAll_mk0, rfl, hg.frame _, fun h => by cases h⟩

set_option maxRecDepth 100000 in
theorem lifted (os : Os) (started : os.Started) (H : Type) (enc : TypeId × Value → H) (F : Stop.Interp) :
    ReturnsInHanded {} Try.checked os 4 .any ((Rows.OpenSpec.upto Rows.indexCyclesSpec).pre6 enc Try.prog Try.f4 Rows.indexCyclesUptoRow.domain false) (((Rows.OpenSpec.upto Rows.indexCyclesSpec).at F).post enc Try.prog Try.f4 false true false false) := by
  refine returnsInHanded_of_cond (C := Try.checked) (s := Rows.OpenSpec.upto Rows.indexCyclesSpec) (k := Rows.uptoSmall) rfl fact_own started (by kernel_rfl) Try.func4
    (OpenSpec.witness (enc := enc) (C := Try.checked) (s := Rows.OpenSpec.upto Rows.indexCyclesSpec) (k := Rows.uptoSmall) rfl false ⟨#[], #[.slice none 0 0], []⟩ 8 (by kernel_rfl) (by kernel_rfl) (by kernel_rfl)
      (x := ([.nil], [], [])) (by kernel_rfl) rfl (by kernel_rfl)) ?_
  intro W base args ds gs before hval hW _ hk _
  exact contract H enc W base args ds gs before hval hW hk

set_option maxHeartbeats 4000000 in
theorem closed : joinedFacts Try.pinned.checked.prog 4 Try.f4 (Rows.OpenSpec.upto Rows.indexCyclesSpec).bare Rows.indexCyclesUptoRow = true := by
  have f1 : (Rows.indexCyclesUptoRow.lifted == Try.pinned.checked.prog.liftsFinal) = true := fact_final
  have f2 : (Try.pinned.checked.prog.make == some Rows.indexCyclesUptoRow.make) = true := fact_make
  have f3 := fact_may
  have f4 := fact_laid
  have f5 := fact_maps
  have f6 := fact_heard
  unfold joinedFacts
  simp only [Bool.and_eq_true]
  repeat' apply And.intro
  all_goals first | with_reducible assumption | (clear f1 f2 f3 f4 f5 f6; as_aux_lemma => kernel_rfl)

theorem proved : Rows.IndexCyclesUptoSaid :=
  OpenClaim.holds_of_cond 4 Try.f4 rfl rfl rfl rfl rfl rfl rfl ⟨rfl, rfl, rfl, rfl, rfl⟩ rfl rfl rfl rfl rfl (by kernel_rfl) Try.func4 closed
    (of_decide_eq_true (by kernel_rfl)) (by unfold Func.isWrapper; first | (rw [if_pos (by decide +kernel)]; kernel_rfl) | (rw [if_neg (by decide +kernel)]; exact ⟨rfl, rfl⟩))
    (fun os started H enc _ F => lifted os started H enc F)
#print axioms proved
end Go.Proofs.Ytkjnlgbpfpkjhaa.indexCyclesUpto
