/- RealRefuses: plans of any kinds and numbers, lists of any length and any floats are refused as the document says, or give finite numbers.
   Conditions: none. -/
import Derived.Test.YtmgfaeineklccaaGreatO9
import Derived.Test.YtmgfaeineklccaaGreatG6
import Derived.Test.YtmgfaeineklccaaGreatMF1
import Derived.Test.YtmgfaeineklccaaGreatVF2L21
import Derived.Test.YtmgfaeineklccaaGreatFacts
import Derived.Test.YtmgfaeineklccaaGreatRows
import Derived.WalkKit
import Derived.ProofKit
import Derived.OpenShut
import Derived.SizedLaws
set_option maxRecDepth 100000
set_option maxHeartbeats 4000000
set_option linter.unusedVariables false
set_option linter.unusedSimpArgs false
namespace Go.Proofs.YtmgfaeineklccaaGreat.realRefuses
open Go.ChangeShapes Go.WideShapes Go.ChangeAt Go.RowKit
theorem lifted(os:Os)(started:os.Started)(H:Type)(enc:TypeId×Value->H):
  ReturnsInHanded {} Tryz.checked os 6 .any (Rows.realRefusesSpec.pre6 enc Tryz.prog Tryz.f6 Rows.realRefusesRow.domain false) (Rows.realRefusesSpec.post enc Tryz.prog Tryz.f6 false true false false):=by
 refine returnsInHanded_of_change_sized (C:=Tryz.checked) fact_own started (by kernel_rfl) Tryz.func6
  (ChangeSpec.witness6 (enc:=enc) (C:=Tryz.checked) false ⟨#[],#[.slice none 0 0,.slice none 0 0,.int .i64 0],[]⟩ 8 (by kernel_rfl) (by kernel_rfl) (by kernel_rfl) (by kernel_rfl)) ?_
 intro W base args ds gs before hval0 hW hcnd hsz0 _
 have hsz:(DataW.weightsEach Tryz.prog (Tryz.f6.params.toList++Rows.realRefusesSpec.plain.varTypes Tryz.prog) (ds++gs)).all (·<=reachBytes)=true:=hsz0
 clear hsz0
 have hval:∀(j:Nat) t v,Tryz.f6.params[j]?=some t->args[j]?=some v->Value.okWide Tryz.prog W .any base t v:=hval0
 have hW':=hW
 obtain⟨p,q,hA0,hV,rfl,hfz,hnd⟩:=hW
 have hA:DataW.TrodAll enc Tryz.prog W 0 (λ_=>true) true Tryz.f6.params.toList args.toList ds p:=hA0
 rw[Tryz.params6] at hA hval hsz
 clear hA0
 obtain⟨v0,vs0,d0,ds0,p0,q0,hargs,rfl,rfl,h0,r0⟩:=trodAll_cons hA
 obtain⟨v1,vs1,d1,ds1,p1,q1,rfl,rfl,rfl,h1,r1⟩:=trodAll_cons r0
 obtain⟨v2,vs2,d2,ds2,p2,q2,rfl,rfl,rfl,h2,r2⟩:=trodAll_cons r1
 obtain⟨rfl,rfl,rfl⟩:=trodAll_nil r2
 obtain rfl:args=#[v0,v1,v2]:=by cases args;simp_all
 obtain⟨rfl,rfl⟩:=trodVars_none hV
 obtain⟨A0,n0,c0,f0,rfl,hA0,hn0⟩:=shape_nodes (hval 0 65 v0 rfl rfl) h0 hsz (j:=0) rfl rfl
 obtain⟨A1,n1,c1,f1,rfl,hA1,hn1,hAc1,hnc1,hc1⟩:=shape_bits (hval 1 46 v1 rfl rfl) h1
 obtain⟨x2,rfl,rfl,rfl,w2⟩:=open_int Tryz.underlying3 (hval 2 3 v2 rfl rfl) h2
 clear hval0
 simp only[List.append_nil] at hW'
 have l0:∀x∈p0,x.block<W.heap.size:=λx hx=>by simpa using hW'.lt x (by simp[hx])
 have l1:∀x∈p1,x.block<W.heap.size:=λx hx=>by simpa using hW'.lt x (by simp[hx])
 refine(RealRefuses_any A0 n0 c0 f0 A1 n1 c1 f1 x2 (wf_rng w2).1 (wf_rng w2).2 W hA0 hn0 hA1 hn1 hAc1 hnc1 hc1).mono λe W' ⟨he,hg⟩=>?_
 subst he
 exact⟨_,rfl,_,_,_,[],p0++(p1++([]++[])),[],hW',trodAll_cons_mk (shut_bool Tryz.underlying4 _) trodAll_mk0,trodAll_cons_mk (Below.trod fact_laid (by kernel_rfl) (of_decide_eq_true (by kernel_rfl)) h0 hg l0) (trodAll_cons_mk (Below.trod fact_laid (by kernel_rfl) (of_decide_eq_true (by kernel_rfl)) h1 hg l1) (trodAll_cons_mk (shut_int Tryz.underlying3 w2) trodAll_mk0)),rfl,hg.frame _,λh=>by cases h⟩
theorem closed:joinedFacts Tryz.pinned.checked.prog 6 Tryz.f6 Rows.realRefusesSpec Rows.realRefusesRow=true:=by
 have f1:(Rows.realRefusesRow.lifted==Tryz.pinned.checked.prog.liftsFinal)=true:=fact_final
 have f2:(Tryz.pinned.checked.prog.make==some Rows.realRefusesRow.make)=true:=fact_make
 have f3:=fact_may
 have f4:=fact_laid
 have f5:=fact_maps
 have f6:=fact_heard
 unfold joinedFacts
 simp only[Bool.and_eq_true]
 repeat' apply And.intro
 all_goals first|with_reducible assumption|(clear f1 f2 f3 f4 f5 f6;as_aux_lemma=>kernel_rfl)
theorem over:Rows.realRefusesRow.holds Tryz.pinned (OpenSpec.ofChange Rows.realRefusesSpec):=
 OpenClaim.holds_of_wide 6 Tryz.f6 rfl rfl rfl rfl rfl rfl rfl ⟨rfl,rfl,rfl,rfl,rfl⟩ rfl rfl rfl rfl rfl (by kernel_rfl) Tryz.func6 closed
  (of_decide_eq_true (by kernel_rfl)) (by unfold Func.isWrapper;first|(rw[if_pos (by decide+kernel)];kernel_rfl)|(rw[if_neg (by decide+kernel)];exact⟨rfl,rfl⟩))
  (λos started H enc _=>lifted os started H enc)
theorem proved:Rows.RealRefusesSaid:=
 over
#print axioms proved
end Go.Proofs.YtmgfaeineklccaaGreat.realRefuses
