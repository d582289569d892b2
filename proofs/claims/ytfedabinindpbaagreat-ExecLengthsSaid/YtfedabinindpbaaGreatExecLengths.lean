/- ExecLengths: the length of every list of up to 60 numbers, of any floats, is as near to the exact one as the document says; of a list with what is not finite there is none
   Conditions: none. -/
import Derived.Test.YtfedabinindpbaaGreatAN5
import Derived.Test.YtfedabinindpbaaGreatFacts
import Derived.Test.YtfedabinindpbaaGreatRows
import Derived.WalkKit
import Derived.ProofKit
import Derived.OpenShut
import Derived.SizedLaws
set_option maxRecDepth 100000
set_option maxHeartbeats 4000000
set_option linter.unusedVariables false
set_option linter.unusedSimpArgs false
namespace Go.Proofs.YtfedabinindpbaaGreat.execLengths
open Go.ChangeShapes Go.WideShapes Go.ChangeAt Go.RowKit
theorem lifted(os:Os)(started:os.Started)(H:Type)(enc:TypeId×Value->H):
  ReturnsInHanded {} Tryz.checked os 3 .any (Rows.execLengthsSpec.pre6 enc Tryz.prog Tryz.f3 Rows.execLengthsRow.domain false) (Rows.execLengthsSpec.post enc Tryz.prog Tryz.f3 false true false false):=by
 refine returnsInHanded_of_change_sized (C:=Tryz.checked) fact_own started (by kernel_rfl) Tryz.func3
  (ChangeSpec.witness6 (enc:=enc) (C:=Tryz.checked) false ⟨#[],#[.slice none 0 0],[]⟩ 8 (by kernel_rfl) (by kernel_rfl) (by kernel_rfl) (by kernel_rfl)) ?_
 intro W base args ds gs before hval0 hW hcnd hsz0 _
 have hsz:(DataW.weightsEach Tryz.prog (Tryz.f3.params.toList++Rows.execLengthsSpec.plain.varTypes Tryz.prog) (ds++gs)).all (·<=reachBytes)=true:=hsz0
 clear hsz0
 have hval:∀(j:Nat) t v,Tryz.f3.params[j]?=some t->args[j]?=some v->Value.okWide Tryz.prog W .any base t v:=hval0
 have hW':=hW
 obtain⟨p,q,hA0,hV,rfl,hfz,hnd⟩:=hW
 have hA:DataW.TrodAll enc Tryz.prog W 0 (λ_=>true) true Tryz.f3.params.toList args.toList ds p:=hA0
 rw[Tryz.params3] at hA hval hsz
 clear hA0
 obtain⟨v0,vs0,d0,ds0,p0,q0,hargs,rfl,rfl,h0,r0⟩:=trodAll_cons hA
 obtain⟨rfl,rfl,rfl⟩:=trodAll_nil r0
 obtain rfl:args=#[v0]:=by cases args;simp_all
 obtain⟨rfl,rfl⟩:=trodVars_none hV
 obtain⟨A0,n0,c0,f0,rfl,hA0,hn0,hAc0,hnc0,hc0⟩:=shape_bits (hval 0 22 v0 rfl rfl) h0
 clear hval0
 simp only[List.append_nil] at hW'
 have l0:∀x∈p0,x.block<W.heap.size:=λx hx=>by simpa using hW'.lt x (by simp[hx])
 refine(ExecLengths_any A0 n0 c0 f0 W hA0 hn0 hAc0 hnc0 hc0).mono λe W' ⟨he,hg⟩=>?_
 subst he
 exact⟨_,rfl,_,_,_,[],p0++[],[],hW',trodAll_cons_mk (shut_bool Tryz.underlying4 _) trodAll_mk0,trodAll_cons_mk (Below.trod fact_laid (by kernel_rfl) (of_decide_eq_true (by kernel_rfl)) h0 hg l0) trodAll_mk0,rfl,hg.frame _,λh=>by cases h⟩
theorem closed:joinedFacts Tryz.pinned.checked.prog 3 Tryz.f3 Rows.execLengthsSpec Rows.execLengthsRow=true:=by
 have f1:(Rows.execLengthsRow.lifted==Tryz.pinned.checked.prog.liftsFinal)=true:=fact_final
 have f2:(Tryz.pinned.checked.prog.make==some Rows.execLengthsRow.make)=true:=fact_make
 have f3:=fact_may
 have f4:=fact_laid
 have f5:=fact_maps
 have f6:=fact_heard
 unfold joinedFacts
 simp only[Bool.and_eq_true]
 repeat' apply And.intro
 all_goals first|with_reducible assumption|(clear f1 f2 f3 f4 f5 f6;as_aux_lemma=>kernel_rfl)
theorem over:Rows.execLengthsRow.holds Tryz.pinned (OpenSpec.ofChange Rows.execLengthsSpec):=
 OpenClaim.holds_of_wide 3 Tryz.f3 rfl rfl rfl rfl rfl rfl rfl ⟨rfl,rfl,rfl,rfl,rfl⟩ rfl rfl rfl rfl rfl (by kernel_rfl) Tryz.func3 closed
  (of_decide_eq_true (by kernel_rfl)) (by unfold Func.isWrapper;first|(rw[if_pos (by decide+kernel)];kernel_rfl)|(rw[if_neg (by decide+kernel)];exact⟨rfl,rfl⟩))
  (λos started H enc _=>lifted os started H enc)
theorem proved:Rows.ExecLengthsSaid:=
 over
#print axioms proved
end Go.Proofs.YtfedabinindpbaaGreat.execLengths
