/- RealSame: the same plan and numbers give the same bits; what is handed in isn't changed.
   Conditions: none. -/
import Derived.Test.YtmgfaeineklccaaGreatO12
import Derived.Test.YtmgfaeineklccaaGreatMO4
import Derived.Test.YtmgfaeineklccaaGreatMF1
import Derived.Test.YtmgfaeineklccaaGreatFacts
import Derived.Test.YtmgfaeineklccaaGreatRows
import Derived.WalkKit
import Derived.ProofKit
import Derived.OpenShut
import Derived.SizedLaws
set_option maxRecDepth 100000
set_option maxHeartbeats 4000000
set_option linter.unusedVariables false
set_option linter.unusedSimpArgs false
namespace Go.Proofs.YtmgfaeineklccaaGreat.realSame
open Go.ChangeShapes Go.WideShapes Go.ChangeAt Go.RowKit
theorem lifted(os:Os)(started:os.Started)(H:Type)(enc:TypeId×Value->H):
  ReturnsInHanded {} Tryz.checked os 9 .any (Rows.realSameSpec.pre6 enc Tryz.prog Tryz.f9 Rows.realSameRow.domain false) (Rows.realSameSpec.post enc Tryz.prog Tryz.f9 false true false false):=by
 refine returnsInHanded_of_change_sized (C:=Tryz.checked) fact_own started (by kernel_rfl) Tryz.func9
  (ChangeSpec.witness6 (enc:=enc) (C:=Tryz.checked) false ⟨#[],#[.int .i64 0,.slice none 0 0,.slice none 0 0],[]⟩ 8 (by kernel_rfl) (by kernel_rfl) (by kernel_rfl) (by kernel_rfl)) ?_
 intro W base args ds gs before hval0 hW hcnd hsz0 _
 have hsz:(DataW.weightsEach Tryz.prog (Tryz.f9.params.toList++Rows.realSameSpec.plain.varTypes Tryz.prog) (ds++gs)).all (·<=reachBytes)=true:=hsz0
 clear hsz0
 have hval:∀(j:Nat) t v,Tryz.f9.params[j]?=some t->args[j]?=some v->Value.okWide Tryz.prog W .any base t v:=hval0
 have hW':=hW
 obtain⟨p,q,hA0,hV,rfl,hfz,hnd⟩:=hW
 have hA:DataW.TrodAll enc Tryz.prog W 0 (λ_=>true) true Tryz.f9.params.toList args.toList ds p:=hA0
 rw[Tryz.params9] at hA hval hsz
 clear hA0
 obtain⟨v0,vs0,d0,ds0,p0,q0,hargs,rfl,rfl,h0,r0⟩:=trodAll_cons hA
 obtain⟨v1,vs1,d1,ds1,p1,q1,rfl,rfl,rfl,h1,r1⟩:=trodAll_cons r0
 obtain⟨v2,vs2,d2,ds2,p2,q2,rfl,rfl,rfl,h2,r2⟩:=trodAll_cons r1
 obtain⟨rfl,rfl,rfl⟩:=trodAll_nil r2
 obtain rfl:args=#[v0,v1,v2]:=by cases args;simp_all
 obtain⟨rfl,rfl⟩:=trodVars_none hV
 obtain⟨x0,rfl,rfl,rfl,w0⟩:=open_int Tryz.underlying3 (hval 0 3 v0 rfl rfl) h0
 obtain⟨A1,n1,c1,f1,rfl,hA1,hd1,hR1⟩:=shape_ints (hval 1 23 v1 rfl rfl) h1
 have hn1:=sized_ints h1 hsz (j:=1) rfl rfl hd1
 obtain⟨A2,n2,c2,f2,rfl,hA2,-⟩:=shape_nums21 (hval 2 85 v2 rfl rfl) h2
 clear hval0
 simp only[List.append_nil] at hW'
 have l1:∀x∈p1,x.block<W.heap.size:=λx hx=>by simpa using hW'.lt x (by simp[hx])
 have l2:∀x∈p2,x.block<W.heap.size:=λx hx=>by simpa using hW'.lt x (by simp[hx])
 refine(RealSame_any x0 (wf_rng w0).1 (wf_rng w0).2 A1 n1 c1 f1 A2 n2 c2 f2 W hA1 hn1 hA2).mono λe W' ⟨he,hg⟩=>?_
 subst he
 exact⟨_,rfl,_,_,_,[],[]++(p1++(p2++[])),[],hW',trodAll_cons_mk (shut_bool Tryz.underlying4 _) trodAll_mk0,trodAll_cons_mk (shut_int Tryz.underlying3 w0) (trodAll_cons_mk (Below.trod fact_laid (by kernel_rfl) (of_decide_eq_true (by kernel_rfl)) h1 hg l1) (trodAll_cons_mk (Below.trod fact_laid (by kernel_rfl) (of_decide_eq_true (by kernel_rfl)) h2 hg l2) trodAll_mk0)),rfl,hg.frame _,λh=>by cases h⟩
theorem closed:joinedFacts Tryz.pinned.checked.prog 9 Tryz.f9 Rows.realSameSpec Rows.realSameRow=true:=by
 have f1:(Rows.realSameRow.lifted==Tryz.pinned.checked.prog.liftsFinal)=true:=fact_final
 have f2:(Tryz.pinned.checked.prog.make==some Rows.realSameRow.make)=true:=fact_make
 have f3:=fact_may
 have f4:=fact_laid
 have f5:=fact_maps
 have f6:=fact_heard
 unfold joinedFacts
 simp only[Bool.and_eq_true]
 repeat' apply And.intro
 all_goals first|with_reducible assumption|(clear f1 f2 f3 f4 f5 f6;as_aux_lemma=>kernel_rfl)
theorem over:Rows.realSameRow.holds Tryz.pinned (OpenSpec.ofChange Rows.realSameSpec):=
 OpenClaim.holds_of_wide 9 Tryz.f9 rfl rfl rfl rfl rfl rfl rfl ⟨rfl,rfl,rfl,rfl,rfl⟩ rfl rfl rfl rfl rfl (by kernel_rfl) Tryz.func9 closed
  (of_decide_eq_true (by kernel_rfl)) (by unfold Func.isWrapper;first|(rw[if_pos (by decide+kernel)];kernel_rfl)|(rw[if_neg (by decide+kernel)];exact⟨rfl,rfl⟩))
  (λos started H enc _=>lifted os started H enc)
theorem proved:Rows.RealSameSaid:=
 over
#print axioms proved
end Go.Proofs.YtmgfaeineklccaaGreat.realSame
