/- For every two pairs of integers the law DDQuos returns true: the quotient of two tame numbers is neat, and its product with the second is near the first.
   Conditions: none. -/
import Derived.Test.YtnpkblidlmkagaaW30
import Derived.Test.YtnpkblidlmkagaaArr
import Derived.Test.YtnpkblidlmkagaaFacts
import Derived.Test.YtnpkblidlmkagaaRows
import Derived.WalkKit
import Derived.ProofKit
import Derived.OpenShut
namespace Go.Proofs.Ytnpkblidlmkagaa.dDQuos
open Go.ChangeShapes Go.WideShapes Go.ChangeAt Go.RowKit
set_option linter.unusedVariables false

set_option maxRecDepth 100000 in
theorem lifted (os : Os) (started : os.Started) (H : Type) (enc : TypeId × Value → H) :
    ReturnsInHanded {} Try.checked os 7 .any (Rows.dDQuosSpec.pre6 enc Try.prog Try.f7 Rows.dDQuosRow.domain false) (Rows.dDQuosSpec.post enc Try.prog Try.f7 false true false false) := by
  refine returnsInHanded_of_change (C := Try.checked) fact_own started (by kernel_rfl) Try.func7
    (ChangeSpec.witness6 (enc := enc) (C := Try.checked) false ⟨#[], #[.agg #[.int .i64 0, .int .i64 0], .agg #[.int .i64 0, .int .i64 0]], []⟩ 8 (by kernel_rfl) (by kernel_rfl) (by kernel_rfl) (by kernel_rfl)) ?_
  intro W base args ds gs before hval0 hW hcnd _
  have hval : ∀ (j : Nat) t v, Try.f7.params[j]? = some t → args[j]? = some v → Value.okWide Try.prog W .any base t v := hval0
  have hW' := hW
  obtain ⟨p, q, hA0, hV, rfl, hfz, hnd⟩ := hW
  have hA : DataW.TrodAll enc Try.prog W 0 (fun _ => true) true Try.f7.params.toList args.toList ds p := hA0
  rw [Try.params7] at hA hval
  obtain ⟨v0, vs0, d0, ds0, p0, q0, hargs, rfl, rfl, h0, r0⟩ := trodAll_cons hA
  obtain ⟨v1, vs1, d1, ds1, p1, q1, rfl, rfl, rfl, h1, r1⟩ := trodAll_cons r0
  obtain ⟨rfl, rfl, rfl⟩ := trodAll_nil r1
  obtain rfl : args = #[v0, v1] := by cases args; simp_all
  obtain ⟨rfl, rfl⟩ := trodVars_none hV
  obtain ⟨x0, y0, rfl⟩ := shape_pair (hval 0 38 v0 rfl rfl) h0
  obtain ⟨x1, y1, rfl⟩ := shape_pair (hval 1 38 v1 rfl rfl) h1
  clear hA0 hval0
  simp only [List.append_nil] at hW'
  have l0 : ∀ x ∈ p0, x.block < W.heap.size := fun x hx => by simpa using hW'.lt x (by simp [hx])
  have l1 : ∀ x ∈ p1, x.block < W.heap.size := fun x hx => by simpa using hW'.lt x (by simp [hx])
  refine (quos_all x0 y0 x1 y1 W).mono fun e W' ⟨he, hg⟩ => ?_
  subst he
  exact ⟨_, rfl, _, _, _, [], p0 ++ (p1 ++ []), [], hW', trodAll_cons_mk (shut_bool Try.underlying4 _) trodAll_mk0, trodAll_cons_mk (Below.trod fact_laid (by kernel_rfl) (of_decide_eq_true (by kernel_rfl)) h0 hg l0) (trodAll_cons_mk (Below.trod fact_laid (by kernel_rfl) (of_decide_eq_true (by kernel_rfl)) h1 hg l1) trodAll_mk0), rfl, hg.frame _, fun h => by cases h⟩

set_option maxHeartbeats 4000000 in
theorem closed : joinedFacts Try.pinned.checked.prog 7 Try.f7 Rows.dDQuosSpec Rows.dDQuosRow = true := by
  have f1 : (Rows.dDQuosRow.lifted == Try.pinned.checked.prog.liftsFinal) = true := fact_final
  have f2 : (Try.pinned.checked.prog.make == some Rows.dDQuosRow.make) = true := fact_make
  have f3 := fact_may
  have f4 := fact_laid
  have f5 := fact_maps
  have f6 := fact_heard
  unfold joinedFacts
  simp only [Bool.and_eq_true]
  repeat' apply And.intro
  all_goals first | with_reducible assumption | (clear f1 f2 f3 f4 f5 f6; as_aux_lemma => kernel_rfl)

theorem over : Rows.dDQuosRow.holds Try.pinned (OpenSpec.ofChange Rows.dDQuosSpec) :=
  OpenClaim.holds_of_wide 7 Try.f7 rfl rfl rfl rfl rfl rfl rfl ⟨rfl, rfl, rfl, rfl, rfl⟩ rfl rfl rfl rfl rfl (by kernel_rfl) Try.func7 closed
    (of_decide_eq_true (by kernel_rfl)) (by unfold Func.isWrapper; first | (rw [if_pos (by decide +kernel)]; kernel_rfl) | (rw [if_neg (by decide +kernel)]; exact ⟨rfl, rfl⟩))
    (fun os started H enc _ => lifted os started H enc)

theorem proved : Rows.DDQuosSaid :=
  over
#print axioms proved
end Go.Proofs.Ytnpkblidlmkagaa.dDQuos
