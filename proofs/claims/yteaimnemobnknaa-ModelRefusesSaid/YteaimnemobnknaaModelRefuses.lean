/- ModelRefuses: plans of any kinds and numbers, lists of any length and any sign are refused as the document says
   Conditions: none. -/
import Derived.Test.YteaimnemobnknaaN13
import Derived.Test.YteaimnemobnknaaF1
import Derived.Test.YteaimnemobnknaaF2L19
import Derived.Test.YteaimnemobnknaaFacts
import Derived.Test.YteaimnemobnknaaRows
import Derived.WalkKit
import Derived.ProofKit
import Derived.OpenShut
import Derived.SizedLaws
set_option maxRecDepth 100000
set_option maxHeartbeats 4000000
set_option linter.unusedVariables false
set_option linter.unusedSimpArgs false
namespace Go.Proofs.Yteaimnemobnknaa.modelRefuses
open Go.ChangeShapes Go.WideShapes Go.ChangeAt Go.RowKit
theorem lifted(os:Os)(started:os.Started)(H:Type)(enc:TypeId×Value->H):
  ReturnsInHanded {} Try.checked os 9 .any (Rows.modelRefusesSpec.pre6 enc Try.prog Try.f9 Rows.modelRefusesRow.domain false) (Rows.modelRefusesSpec.post enc Try.prog Try.f9 false true false false):=by
 refine returnsInHanded_of_change_sized (C:=Try.checked) fact_own started (by kernel_rfl) Try.func9
  (ChangeSpec.witness6 (enc:=enc) (C:=Try.checked) false ⟨#[],#[.slice none 0 0,.int .i64 0,.int .i64 0],[]⟩ 8 (by kernel_rfl) (by kernel_rfl) (by kernel_rfl) (by kernel_rfl)) ?_
 intro W base args ds gs before hval0 hW hcnd hsz0 _
 have hsz:(DataW.weightsEach Try.prog (Try.f9.params.toList++Rows.modelRefusesSpec.plain.varTypes Try.prog) (ds++gs)).all (·<=reachBytes)=true:=hsz0
 clear hsz0
 have hval:∀(j:Nat) t v,Try.f9.params[j]?=some t->args[j]?=some v->Value.okWide Try.prog W .any base t v:=hval0
 have hW':=hW
 obtain⟨p,q,hA0,hV,rfl,hfz,hnd⟩:=hW
 have hA:DataW.TrodAll enc Try.prog W 0 (λ_=>true) true Try.f9.params.toList args.toList ds p:=hA0
 rw[Try.params9] at hA hval hsz
 clear hA0
 obtain⟨v0,vs0,d0,ds0,p0,q0,hargs,rfl,rfl,h0,r0⟩:=trodAll_cons hA
 obtain⟨v1,vs1,d1,ds1,p1,q1,rfl,rfl,rfl,h1,r1⟩:=trodAll_cons r0
 obtain⟨v2,vs2,d2,ds2,p2,q2,rfl,rfl,rfl,h2,r2⟩:=trodAll_cons r1
 obtain⟨rfl,rfl,rfl⟩:=trodAll_nil r2
 obtain rfl:args=#[v0,v1,v2]:=by cases args;simp_all
 obtain⟨rfl,rfl⟩:=trodVars_none hV
 obtain⟨A0,n0,c0,f0,rfl,hA0,hn0⟩:=shape_nodes (hval 0 65 v0 rfl rfl) h0 hsz (j:=0) rfl rfl
 obtain⟨x1,rfl,rfl,rfl,w1⟩:=open_int Try.underlying3 (hval 1 3 v1 rfl rfl) h1
 obtain⟨x2,rfl,rfl,rfl,w2⟩:=open_int Try.underlying3 (hval 2 3 v2 rfl rfl) h2
 clear hval0
 simp only[List.append_nil] at hW'
 have l0:∀x∈p0,x.block<W.heap.size:=λx hx=>by simpa using hW'.lt x (by simp[hx])
 refine(MRefuses_any A0 n0 c0 f0 x1 (wf_rng w1).1 (wf_rng w1).2 x2 (wf_rng w2).1 (wf_rng w2).2 W hA0 hn0).mono λe W' ⟨he,hg⟩=>?_
 subst he
 exact⟨_,rfl,_,_,_,[],p0++([]++([]++[])),[],hW',trodAll_cons_mk (shut_bool Try.underlying4 _) trodAll_mk0,trodAll_cons_mk (Below.trod fact_laid (by kernel_rfl) (of_decide_eq_true (by kernel_rfl)) h0 hg l0) (trodAll_cons_mk (shut_int Try.underlying3 w1) (trodAll_cons_mk (shut_int Try.underlying3 w2) trodAll_mk0)),rfl,hg.frame _,λh=>by cases h⟩
theorem closed:joinedFacts Try.pinned.checked.prog 9 Try.f9 Rows.modelRefusesSpec Rows.modelRefusesRow=true:=by
 have f1:(Rows.modelRefusesRow.lifted==Try.pinned.checked.prog.liftsFinal)=true:=fact_final
 have f2:(Try.pinned.checked.prog.make==some Rows.modelRefusesRow.make)=true:=fact_make
 have f3:=fact_may
 have f4:=fact_laid
 have f5:=fact_maps
 have f6:=fact_heard
 unfold joinedFacts
 simp only[Bool.and_eq_true]
 repeat' apply And.intro
 all_goals first|with_reducible assumption|(clear f1 f2 f3 f4 f5 f6;as_aux_lemma=>kernel_rfl)
theorem over:Rows.modelRefusesRow.holds Try.pinned (OpenSpec.ofChange Rows.modelRefusesSpec):=
 OpenClaim.holds_of_wide 9 Try.f9 rfl rfl rfl rfl rfl rfl rfl ⟨rfl,rfl,rfl,rfl,rfl⟩ rfl rfl rfl rfl rfl (by kernel_rfl) Try.func9 closed
  (of_decide_eq_true (by kernel_rfl)) (by unfold Func.isWrapper;first|(rw[if_pos (by decide+kernel)];kernel_rfl)|(rw[if_neg (by decide+kernel)];exact⟨rfl,rfl⟩))
  (λos started H enc _=>lifted os started H enc)
theorem proved:Rows.ModelRefusesSaid:=
 over
#print axioms proved
end Go.Proofs.Yteaimnemobnknaa.modelRefuses
