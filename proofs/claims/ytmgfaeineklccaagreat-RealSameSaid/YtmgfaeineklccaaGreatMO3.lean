/- real.Forward, real.Backward of any plan and any numbers: refused, or finite numbers. -/
import Derived.Test.YtmgfaeineklccaaGreatMO1
import Derived.Test.YtmgfaeineklccaaGreatMO2
set_option linter.unusedSimpArgs false
set_option linter.unusedVariables false
namespace Go.Proofs.YtmgfaeineklccaaGreat
open Go.RowKit Go.Lib
theorem check_eq{k N r:Int}{q:Fo}{want:Int}(h:checkE k N r q want=0):N=want/\1<=want:=by
 unfold checkE at h
 by_cases h1:want<1\/32768<want
 ·rw[if_pos h1] at h;cases h
 rw[if_neg h1] at h
 by_cases h2:64<1+q.count
 ·rw[if_pos h2] at h;cases h
 rw[if_neg h2] at h
 unfold Fo.bad at h
 by_cases e:nodeE k N r q.len ([want].headD 0) false≠0
 ·rw[if_pos e] at h;exact absurd h e
 ·have e:nodeE k N r q.len want false=0:=by simpa using e
  obtain⟨-,-,-,hn,-⟩:=nodeE_zero e
  exact⟨hn,by omega⟩
theorem noF_zero{x:Nat->Nat}{n:Nat}(h:noF x n=0):idxI (onF λy=>!fitsB W890 y) (reF x) n=-1:=by
 unfold noF at h
 split at h
 ·assumption
 ·cases h
theorem noC_zero{x:Nat->Cx}{n:Nat}(h:noC x n=0):idxI (λy=>!fitsC W890 y) x n=-1:=by
 unfold noC at h
 split at h
 ·assumption
 ·cases h
namespace CG
open Fl
theorem om_900:(1897137590064188545819787018382342682267975428761855001222473056385648716020711424:Rat)<=om:=by
 obtain⟨h1,h2⟩:=ul_unit
 have hp:(((2^U*1897137590064188545819787018382342682267975428761855001222473056385648716020711424:Nat):Nat):Rat)<=(((2^Bt:Nat):Nat):Rat):=Rat.natCast_le_natCast.2 (by
  have e0:(1897137590064188545819787018382342682267975428761855001222473056385648716020711424:Nat)=2^200*2^70:=by decide+kernel
  rw[e0,<-Nat.mul_assoc,<-Nat.pow_add,<-Nat.pow_add]
  exact Nat.pow_le_pow_right (by decide) (by rw[U_eq,Bt_eq];decide))
 rw[Rat.natCast_mul] at hp
 have e:((1897137590064188545819787018382342682267975428761855001222473056385648716020711424:Nat):Rat)=1897137590064188545819787018382342682267975428761855001222473056385648716020711424:=rfl
 rw[e] at hp
 have b:=Rat.mul_nonneg (a:=(((2^Bt:Nat):Nat):Rat)-(((2^U:Nat):Nat):Rat)*1897137590064188545819787018382342682267975428761855001222473056385648716020711424) (b:=ul) (by grind) (by grind)
 rw[om_eq]
 grind
def E890:RR:=RR.of (D890*2)
theorem E890_ok:(1:Rat)<=D890*2/\D890*2*56539106072908298546665520023773392506479484700019806659891398441363832832<=om*om/\(16:Rat)<=D890*2/\20000000000000*(D890*2)<=om*om/256/\0<=D890:=by
 have h4:=om_900
 have k2:=Rat.mul_nonneg (a:=om-1897137590064188545819787018382342682267975428761855001222473056385648716020711424) (b:=om) (by grind) (by grind)
 unfold D890
 refine⟨by grind,by grind,by grind,by grind,by grind⟩
theorem fin_nq{c:Cx}{u v:Wd}(hc:nC (u,v)=c)(h1:fitsB W890 u=true)(h2:fitsB W890 v=true):Sz c E890:=by
 obtain⟨f1,g1⟩:=fits890 h1 u.isLt
 obtain⟨f2,g2⟩:=fits890 h2 v.isLt
 subst hc
 unfold nC
 rw[nz_fnt f1,nz_fnt f2]
 refine⟨⟨f1,f2⟩,?_⟩
 rw[nsq_vC]
 refine RR.of_le.2 ?_
 unfold nq
 grind
theorem fits_of_sz{c:Cx}{A:RR}(h:Sz c A)(hA:A<=RR.of (rv W900*rv W900)):fitsC W900 c=true:=by
 obtain⟨⟨f1,f2⟩,h1⟩:=h
 have h2:=Std.IsPreorder.le_trans _ _ _ h1 hA
 rw[nsq_vC] at h2
 have h3:=RR.of_le.1 h2
 unfold nq at h3
 have q1:=ratsq (rv c.1)
 have q2:=ratsq (rv c.2)
 unfold fitsC
 rw[fits900_of f1 (by grind),fits900_of f2 (by grind)]
 rfl
theorem W900_big:10000*E890<=RR.of (rv W900*rv W900):=by
 have e:10000*E890=RR.of (10000*(D890*2)):=rfl
 rw[e]
 refine RR.of_le.2 ?_
 have h1:=om_W900
 unfold D890
 rw[h1]
 have:=ratsq (rv W900)
 grind
theorem plan_sz(k r:Int)(q:Fo)(N:Nat)(h1:1<=N)(hN:N<=300)(hc:checkE k N r q N=0)(x:Nat->Cx)(hx:∀i,i<N->Sz (x i) E890)(s:Int)(hs:s=1\/s=-1):∀i,i<N->Sz (exF k N r q s x i) (720000*E890):=by
 obtain⟨e1,e2,-,-,e5⟩:=E890_ok
 obtain⟨g1,g2⟩:=plan_grow k r q N h1 hN hc (D890*2) e1 e2 x hx s hs
 intro i hi
 refine⟨g1 i hi,Std.IsPreorder.le_trans _ _ _ (nS_term (f:=λi=>vC (exF k N r q s x i)) hi) (Std.IsPreorder.le_trans _ _ _ g2 ?_)⟩
 have e:720000*E890=RR.of (720000*(D890*2)):=rfl
 rw[e]
 refine RR.of_le.2 ?_
 have h7:=Rat.natCast_le_natCast.2 hN
 have z3:((300:Nat):Rat)=300:=rfl
 rw[z3] at h7
 have h8:(0:Rat)<=(N:Rat):=Rat.natCast_nonneg
 have h11:=(mulle (a:=(N:Rat)) (b:=(N:Rat)) (A:=300) (B:=300) (by grind) h7 (by grind) h7).2
 have h12:=Rat.mul_nonneg (a:=300*300-(N:Rat)*(N:Rat)) (b:=D890) (by grind) (by grind)
 grind
theorem E16:16<=E890:=by
 have e:(16:RR)=RR.of 16:=rfl
 rw[e]
 exact RR.of_le.2 E890_ok.2.2.1
theorem E_oM:20000000000000*E890<=oM:=by
 have e:20000000000000*E890=RR.of (20000000000000*(D890*2)):=rfl
 rw[e]
 exact RR.of_le.2 E890_ok.2.2.2.1
theorem E_fin:10000*E890<=RR.of (om*om/56539106072908298546665520023773392506479484700019806659891398441363832832):=by
 have e:10000*E890=RR.of (10000*(D890*2)):=rfl
 rw[e]
 refine RR.of_le.2 ?_
 have:=E890_ok.2.2.2.2
 unfold D890 at this|-
 grind
end CG
theorem FsAt.all{w:World}{X:Option Addr}{n:Nat}{x:Nat->Nat}(hX:FsAt w X n x)(h:noF x n=0):∀i,i<n->∃u:Wd,nz u=x i/\fitsB W890 u=true:=λi hi=>by
 obtain⟨-,-,u,-,-,hu⟩:=hX i hi
 refine⟨u,hu,?_⟩
 have:=idxI_no.1 (noF_zero h) i hi
 unfold onF reF at this
 dsimp only at this
 rw[<-hu,fits_nz] at this
 simpa using this
theorem CsAt.all{w:World}{X:Option Addr}{l:Nat}{h:Nat->Cx}(hX:CsAt w X l h)(hf:noC h l=0):∀i,i<l->CG.Sz (h i) CG.E890:=λi hi=>by
 obtain⟨-,-,u,-,-,-,hu⟩:=hX i hi
 have:=idxI_no.1 (noC_zero hf) i hi
 rw[<-hu] at this|-
 unfold fitsC nC at this
 simp only[fits_nz] at this
 simp at this
 exact CG.fin_nq (u:=u.1) (v:=u.2) rfl this.1 this.2
theorem fits0:fitsB W890 ((0:Wd):Nat)=true:=by decide+kernel
theorem nz_zero7:nz ((0:Wd):Nat)=0:=by kernel_rfl
end Go.Proofs.YtmgfaeineklccaaGreat
