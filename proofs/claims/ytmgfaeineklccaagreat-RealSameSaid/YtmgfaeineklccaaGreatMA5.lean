/- The program's roots against the exact ones; complex floats as numbers with operations that are off by a little. -/
import Derived.Test.YtmgfaeineklccaaGreatMA4
import Derived.Test.YtmgfaeineklccaaGreatMA2
import Derived.Test.YtmgfaeineklccaaGreatTX
import Derived.Test.YtmgfaeineklccaaGreatMQ3
import Derived.Test.YtmgfaeineklccaaGreatMA3
import Derived.Test.YtmgfaeineklccaaGreatMQ4
import Derived.Test.YtmgfaeineklccaaGreatMY3
set_option linter.unusedSimpArgs false
set_option linter.unusedVariables false
namespace Go.Proofs.YtmgfaeineklccaaGreat
namespace CG
open Fl
theorem e0_near{x:Rat}(x0:0<=x)(x1:x<=1):
  (RR.of (co (8*piE*x)-131*eps)<=(e0 x).re/\(e0 x).re<=RR.of (co (8*piE*x)+131*eps))/\(RR.of (si (8*piE*x)-131*eps)<=(e0 x).im/\(e0 x).im<=RR.of (si (8*piE*x)+131*eps)):=by
 rw[e0_def (by grind) (by grind)]
 have es:=eps_small
 have hp:=pi_bd
 have h0:=Rat.mul_nonneg (a:=piE) (b:=x) (by grind) x0
 have h1:=Rat.mul_nonneg (a:=piE) (b:=1-x) (by grind) (by grind)
 have key:∀i,(-(131*eps)<=cN (200+i) (an x i)-co (8*piE*x)/\cN (200+i) (an x i)-co (8*piE*x)<=131*eps)/\(-(131*eps)<=sN (200+i) (an x i)-si (8*piE*x)/\sN (200+i) (an x i)-si (8*piE*x)<=131*eps):=λi=>by
  have hy:=(yi i).y
  have kp:=ka_pos i
  have kl:=ka_le i
  have ek:=er_ka i
  have m:=mulle (a:=x) (b:=yy i-2*piE) (A:=1) (B:=4*eps) (by grind) x1 (by grind) (by grind)
  have e:an x i=8*piE*x+4*(x*(yy i-2*piE)):=by unfold an;grind
  have s:=step_cs (a:=8*piE*x) (d:=4*(x*(yy i-2*piE))) (D:=16*eps) (by grind) (by grind) (by grind) (by grind) (by grind) (by grind) (n:=200+i) (by omega) (er_one i)
  rw[<-e] at s
  have t:=at_90 (x:=8*piE*x) (by grind) (by grind) (110+i)
  rw[show 90+(110+i)=200+i by omega] at t
  unfold co si
  refine⟨⟨?_,?_⟩,?_,?_⟩<;>grind
 refine⟨⟨λt ht=>Ev.all λi=>?_,λt ht=>Ev.all λi=>?_⟩,λt ht=>Ev.all λi=>?_,λt ht=>Ev.all λi=>?_⟩
 ·show co (8*piE*x)-131*eps<=cN (200+i) (an x i)+t
  have:=(key i).1;grind
 ·show cN (200+i) (an x i)<=co (8*piE*x)+131*eps+t
  have:=(key i).1;grind
 ·show si (8*piE*x)-131*eps<=sN (200+i) (an x i)+t
  have:=(key i).2;grind
 ·show sN (200+i) (an x i)<=si (8*piE*x)+131*eps+t
  have:=(key i).2;grind
theorem S_unit:∃(D S:Int),S=((2^U:Nat):Int)/\S=1329227995784915872903807060280344576*D/\0<D/\(S:Rat)*ul=1:=by
 refine⟨((2^(U-120):Nat):Int),((2^U:Nat):Int),rfl,?_,?_,?_⟩
 ·have e:(1329227995784915872903807060280344576:Nat)=2^120:=by decide+kernel
  have e2:2^U=1329227995784915872903807060280344576*2^(U-120):=by
   rw[e,<-Nat.pow_add]
   congr 1
   rw[U_eq]
  rw[e2,Int.natCast_mul]
  rfl
 ·have:=Nat.pow_pos (n:=U-120) (show 0<2 by decide)
  omega
 ·rw[Rat.intCast_natCast,Rat.mul_comm]
  exact ul_unit.1
theorem first_near{a:Nat×Nat}{e:Rat}{S:Int}(hS:S=((2^U:Nat):Int))(hu:(S:Rat)*ul=1)(h:T.Acc S a e)(e1:-(101/100)<=e)(e2:e<=101/100){x:Nat}(hx:iv x=iv a.1):-(105/100*uu)<=rv x-e/\rv x-e<=105/100*uu:=by
 obtain⟨v,ok,h1,h2⟩:=h.out
 obtain⟨ux,u0⟩:=ul_unit
 have hq:=uu_eq
 obtain⟨r1,r2⟩:=rnd_rel v
 rw[ok.neat] at r1 r2
 rw[<-hx] at r1 r2
 have s1:=Rat.intCast_le_intCast.2 r1
 have s2:=Rat.intCast_le_intCast.2 r2
 have ec:((2^53:Int):Rat)=9007199254740992:=rfl
 rw[Rat.intCast_mul,Rat.intCast_sub,ec] at s1 s2
 have v1:-(2003:Rat)<=1267650600228229401496703205376*((v:Rat)*ul-e):=by
  have:=Rat.mul_nonneg (a:=1267650600228229401496703205376*((v:Rat)-(S:Rat)*e)+2003*(S:Rat)) (b:=ul) (by grind) (by grind)
  have e3:(1267650600228229401496703205376*((v:Rat)-(S:Rat)*e)+2003*(S:Rat))*ul=1267650600228229401496703205376*((v:Rat)*ul-((S:Rat)*ul)*e)+2003*((S:Rat)*ul):=by grind
  rw[e3,hu] at this
  grind
 have v2:1267650600228229401496703205376*((v:Rat)*ul-e)<=2003:=by
  have:=Rat.mul_nonneg (a:=2003*(S:Rat)-1267650600228229401496703205376*((v:Rat)-(S:Rat)*e)) (b:=ul) (by grind) (by grind)
  have e3:(2003*(S:Rat)-1267650600228229401496703205376*((v:Rat)-(S:Rat)*e))*ul=2003*((S:Rat)*ul)-1267650600228229401496703205376*((v:Rat)*ul-((S:Rat)*ul)*e):=by grind
  rw[e3,hu] at this
  grind
 have hn1:(((v.natAbs:Nat):Int):Rat)*ul<=102/100:=by
  have:((v.natAbs:Nat):Int)=v\/((v.natAbs:Nat):Int)=-v:=by omega
  rcases this with h|h<;>rw[h]
  ·grind
  ·rw[Rat.intCast_neg];grind
 have t1:=Rat.mul_nonneg (a:=(((v.natAbs:Nat):Int):Rat)-9007199254740992*((iv x:Rat)-(v:Rat))) (b:=ul) (by grind) (by grind)
 have t2:=Rat.mul_nonneg (a:=(((v.natAbs:Nat):Int):Rat)-9007199254740992*((v:Rat)-(iv x:Rat))) (b:=ul) (by grind) (by grind)
 have hr:rv x=(iv x:Rat)*ul:=rfl
 have k1:9007199254740992*(rv x-(v:Rat)*ul)<=102/100:=by rw[hr];grind
 have k2:9007199254740992*((v:Rat)*ul-rv x)<=102/100:=by rw[hr];grind
 constructor<;>grind
theorem root_near(k:Int){n:Nat}(n1:1<=n)(n2:n<=65536):FinC (croot k n)/\nsq (vC (croot k n)-rtE k n)<=4*(uR*uR):=by
 obtain⟨D,S,hS,hSD,hD,hu⟩:=S_unit
 obtain⟨-,f1,f2,i1,i2⟩:=T.turn_fn (k%n) n (by omega) (by omega)
 obtain⟨a1,a2⟩:=T.ex_acc hS hSD hD (k%n) n (by omega) (by omega)
 have hb:=rtE_bd n n1 k
 have eang:T.ang (k%n) n=8*piE*(((k%(n:Int):Int):Rat)/(n:Rat)):=by
  unfold T.ang
  rw[Int.emod_emod]
  have hn:(0:Rat)<(n:Rat):=Rat.natCast_pos.2 n1
  refine div_eq (by rw[Rat.intCast_natCast];exact hn) ?_
  rw[Rat.intCast_natCast]
  have e:((k%(n:Int):Int):Rat)/(n:Rat)*(n:Rat)=((k%(n:Int):Int):Rat):=Rat.div_mul_cancel (by grind)
  grind
 rw[eang] at a1 a2
 obtain⟨⟨c1,c2⟩,s1,s2⟩:=e0_near hb.1 (by grind)
 have hns:=rtE_nsq n n1 k
 have es:=eps_small
 have ee:eps*1298074214633706907132624082305024=1:=by unfold eps;grind
 have hq:=uu_eq
 have er:rtE k n=e0 (((k%(n:Int):Int):Rat)/(n:Rat)):=rfl
 rw[<-er] at c1 c2 s1 s2
 have bound:∀(q:Rat) (r:RR),RR.of (q-131*eps)<=r->r<=RR.of (q+131*eps)->r*r<=1->-(101/100)<=q/\q<=101/100:=λq r h1 h2 h3=>by
  have z1:(1:RR)=RR.of 1:=rfl
  have r1:r<=RR.of 1:=by
   rw[<-z1]
   apply Classical.byContradiction
   intro hc
   have:=RR.mul_lt (a:=1) (b:=r) (c:=r) (by grind) (by grind)
   grind
  have r2:RR.of (-1)<=r:=by
   rw[RR.of_neg,<-z1]
   apply Classical.byContradiction
   intro hc
   have:=RR.mul_lt (a:=1) (b:=-r) (c:=-r) (by grind) (by grind)
   grind
  have k1:=RR.of_le.1 (Std.IsPreorder.le_trans _ _ _ h1 r1)
  have k2:=RR.of_le.1 (Std.IsPreorder.le_trans _ _ _ r2 h2)
  constructor<;>grind
 have nre:(rtE k n).re*(rtE k n).re<=1:=by
  have:=RR.sq_nonneg (rtE k n).im
  unfold nsq at hns
  grind
 have nim:(rtE k n).im*(rtE k n).im<=1:=by
  have:=RR.sq_nonneg (rtE k n).re
  unfold nsq at hns
  grind
 obtain⟨b1,b2⟩:=bound _ _ c1 c2 nre
 obtain⟨b3,b4⟩:=bound _ _ s1 s2 nim
 obtain⟨p1,p2⟩:=first_near hS hu a1 b1 b2 i1
 obtain⟨p3,p4⟩:=first_near hS hu a2 b3 b4 i2
 have e1:croot k n=(T.tuC (k%n) n,T.tuS (k%n) n):=by
  unfold croot
  rw[nz_fnt f1,nz_fnt f2]
 rw[e1]
 refine⟨⟨f1,f2⟩,?_⟩
 have part:∀(q y:Rat) (r:RR),RR.of (q-131*eps)<=r->r<=RR.of (q+131*eps)->-(105/100*uu)<=y-q->y-q<=105/100*uu->(RR.of y-r)*(RR.of y-r)<=2*(uR*uR):=λq y r h1 h2 h3 h4=>by
  have k1:RR.of (y-11/10*uu)<=r:=Std.IsPreorder.le_trans _ _ _ (RR.of_le.2 (by grind)) h1
  have k2:r<=RR.of (y+11/10*uu):=Std.IsPreorder.le_trans _ _ _ h2 (RR.of_le.2 (by grind))
  rw[RR.of_sub] at k1
  rw[RR.of_add] at k2
  have k3:=RR.mul_nn (x:=RR.of (11/10*uu)-(RR.of y-r)) (y:=RR.of (11/10*uu)+(RR.of y-r)) (by grind) (by grind)
  have k4:RR.of (11/10*uu)*RR.of (11/10*uu)<=2*(uR*uR):=by
   have e:2*(uR*uR)=RR.of (2*(uu*uu)):=rfl
   rw[e,<-RR.of_mul]
   refine RR.of_le.2 ?_
   have:=ratsq uu
   grind
  grind
 have q1:=part _ _ _ c1 c2 p1 p2
 have q2:=part _ _ _ s1 s2 p3 p4
 have en:nsq (vC (T.tuC (k%n) n,T.tuS (k%n) n)-rtE k n)=(RR.of (rv (T.tuC (k%n) n))-(rtE k n).re)*(RR.of (rv (T.tuC (k%n) n))-(rtE k n).re)+(RR.of (rv (T.tuS (k%n) n))-(rtE k n).im)*(RR.of (rv (T.tuS (k%n) n))-(rtE k n).im):=rfl
 rw[en]
 grind
theorem iv_zero':iv 0=0:=by decide+kernel
theorem ul_tiny:ul*(1606938044258990275541962092341162602522202993782792835301376:Rat)<=1:=by
 obtain⟨h1,h2⟩:=ul_unit
 have hp:(((1606938044258990275541962092341162602522202993782792835301376:Nat):Nat):Rat)<=(((2^U:Nat):Nat):Rat):=Rat.natCast_le_natCast.2 (by
  have e:(1606938044258990275541962092341162602522202993782792835301376:Nat)=2^200:=by decide+kernel
  rw[e]
  exact Nat.pow_le_pow_right (by decide) (by rw[U_eq];decide))
 have e:((1606938044258990275541962092341162602522202993782792835301376:Nat):Rat)=1606938044258990275541962092341162602522202993782792835301376:=rfl
 rw[e] at hp
 have:=Rat.mul_nonneg (a:=(((2^U:Nat):Nat):Rat)-1606938044258990275541962092341162602522202993782792835301376) (b:=ul) (by grind) (by grind)
 grind
def tR:RR:=RR.of (ul*ul*1329227995784915872903807060280344576)
def FW:FL Cx where
 R:=ringR
 fin:=FinC
 val:=vC
 u:=uR
 l:=lR
 M:=oM
 τ:=tR
 u0:=by
  have h:¬RR.of uu<=RR.of ((0:Nat):Rat):=λhh=>by
   have:=RR.of_le.1 hh
   have z:((0:Nat):Rat)=0:=rfl
   have:=uu_eq.2
   grind
  have h2:¬uR<=0:=h
  grind
 u1:=by
  have e:(9007199254740992:RR)*uR=RR.of (((9007199254740992:Nat):Rat)*uu):=rfl
  have e1:(1:RR)=RR.of ((1:Nat):Rat):=rfl
  rw[e,e1]
  refine RR.of_le.2 ?_
  have z:((9007199254740992:Nat):Rat)=9007199254740992:=rfl
  have z1:((1:Nat):Rat)=1:=rfl
  rw[z,z1]
  have:=uu_eq.1
  grind
 τ0:=by
  have h:¬tR<=RR.of ((0:Nat):Rat):=λhh=>by
   have:=RR.of_le.1 hh
   have z:((0:Nat):Rat)=0:=rfl
   have:=Rat.mul_pos ul_unit.2 ul_unit.2
   grind
  have h2:¬tR<=0:=h
  grind
 τ1:=RR.of_le.2 (by
  have h1:=ul_tiny
  have h2:=ul_unit.2
  have h3:=uu_eq
  have:=Rat.mul_nonneg (a:=1-ul*1606938044258990275541962092341162602522202993782792835301376) (b:=ul) (by grind) (by grind)
  grind)
 lt:=by
  have e1:1000*(lR*lR)=RR.of (((1000:Nat):Rat)*(ul*ul)):=rfl
  have e2:uR*uR*tR=RR.of (uu*uu*(ul*ul*1329227995784915872903807060280344576)):=rfl
  rw[e1,e2]
  refine RR.of_le.2 ?_
  have z:((1000:Nat):Rat)=1000:=rfl
  rw[z]
  have h3:=uu_eq.1
  have h4:=ratsq ul
  have e3:uu*uu*(ul*ul*1329227995784915872903807060280344576)=(uu*9007199254740992)*(uu*9007199254740992)*(ul*ul)*16384:=by grind
  rw[e3,h3]
  grind
 l0:=RR.sq_nonneg _
 M1:=by
  have e1:1000*tR=RR.of (((1000:Nat):Rat)*(ul*ul*1329227995784915872903807060280344576)):=rfl
  rw[e1]
  refine RR.of_le.2 ?_
  have z:((1000:Nat):Rat)=1000:=rfl
  rw[z]
  have h1:=ul_tiny
  have h2:=ul_unit.2
  have h3:=om_big
  have:=Rat.mul_nonneg (a:=1-ul*1606938044258990275541962092341162602522202993782792835301376) (b:=ul) (by grind) (by grind)
  have:=Rat.mul_nonneg (a:=om-1024) (b:=om) (by grind) (by grind)
  grind
 zero:=⟨⟨⟨by decide,by decide⟩,⟨by decide,by decide⟩⟩,CC.ext (by show RR.of (rv 0)=RR.of ((0:Nat):Rat);unfold rv;rw[iv_zero'];congr 1;have z:((0:Int):Rat)=0:=rfl;rw[z];grind) (by show RR.of (rv 0)=RR.of ((0:Nat):Rat);unfold rv;rw[iv_zero'];congr 1;have z:((0:Int):Rat)=0:=rfl;rw[z];grind)⟩
 add h1 h2 h:=c_add h1 h2 h
 sub h1 h2 h:=c_sub h1 h2 h
 mul h1 h2 h:=c_mul h1 h2 h
 over h1 n1 n2 h:=c_over h1 n1 n2 h
 root:=λk {n} h1 h2=>root_near k h1 h2
end CG
end Go.Proofs.YtmgfaeineklccaaGreat
namespace Go.Proofs.YtmgfaeineklccaaGreat
namespace CG
open Fl
def goodB(n:Nat):Bool:=Nat.ble (rn n*(1024*n)) 113078212145816597093331040047546785012958969400039613319782796882727665664
def chkC(n:Nat):Bool:=Nat.ble (cn n) 1099511627776
theorem chkC_all:(List.range 301).all chkC=true:=by decide+kernel
theorem goodB_all:(List.range 301).all goodB=true:=by decide+kernel
theorem om_200:(1606938044258990275541962092341162602522202993782792835301376:Rat)<=om:=by
 obtain⟨h1,h2⟩:=ul_unit
 have hp:(((2^U*1606938044258990275541962092341162602522202993782792835301376:Nat):Nat):Rat)<=(((2^Bt:Nat):Nat):Rat):=Rat.natCast_le_natCast.2 (by
  have e0:(1606938044258990275541962092341162602522202993782792835301376:Nat)=2^200:=by decide+kernel
  rw[e0,<-Nat.pow_add]
  exact Nat.pow_le_pow_right (by decide) (by rw[U_eq,Bt_eq];decide))
 rw[Rat.natCast_mul] at hp
 have e:((1606938044258990275541962092341162602522202993782792835301376:Nat):Rat)=1606938044258990275541962092341162602522202993782792835301376:=rfl
 rw[e] at hp
 have b:=Rat.mul_nonneg (a:=(((2^Bt:Nat):Nat):Rat)-(((2^U:Nat):Nat):Rat)*1606938044258990275541962092341162602522202993782792835301376) (b:=ul) (by grind) (by grind)
 rw[om_eq]
 grind
theorem up_ok:FW.τ<=65536*FW.τ/\65536*FW.τ<=FW.u/\1000*(65536*FW.τ)<=FW.M/\((2^200:Nat):RR)<=FW.M:=by
 have h1:=ul_tiny
 have h2:=ul_unit.2
 have h3:=uu_eq
 have h4:=om_200
 have t0:=FW.τ0
 have k:=Rat.mul_nonneg (a:=1-ul*1606938044258990275541962092341162602522202993782792835301376) (b:=ul) (by grind) (by grind)
 have k2:=Rat.mul_nonneg (a:=om-1606938044258990275541962092341162602522202993782792835301376) (b:=om) (by grind) (by grind)
 have e:65536*tR=RR.of (((65536:Nat):Rat)*(ul*ul*1329227995784915872903807060280344576)):=rfl
 have z:((65536:Nat):Rat)=65536:=rfl
 have z1:((1000:Nat):Rat)=1000:=rfl
 refine⟨by grind,?_,?_,?_⟩
 ·show 65536*tR<=uR
  rw[e,z]
  refine RR.of_le.2 ?_
  grind
 ·show 1000*(65536*tR)<=oM
  rw[e]
  have e2:1000*RR.of (((65536:Nat):Rat)*(ul*ul*1329227995784915872903807060280344576))=RR.of (((1000:Nat):Rat)*(((65536:Nat):Rat)*(ul*ul*1329227995784915872903807060280344576))):=rfl
  rw[e2,z,z1]
  refine RR.of_le.2 ?_
  grind
 ·refine RR.of_le.2 ?_
  have e5:((2^200:Nat):Rat)=1606938044258990275541962092341162602522202993782792835301376:=by
   have e0:(2^200:Nat)=1606938044258990275541962092341162602522202993782792835301376:=by decide+kernel
   rw[e0]
   rfl
  rw[e5]
  grind
theorem plan_grow(kind r:Int)(q:Fo)(N:Nat)(h1:1<=N)(hN:N<=300)(hc:checkE kind N r q N=0)(D:Rat)(hD1:1<=D)(hoD:D*56539106072908298546665520023773392506479484700019806659891398441363832832<=om*om)(x:Nat->Cx)(hx:∀i,i<N->FinC (x i)/\nsq (vC (x i))<=RR.of D)(s:Int)(hs:s=1\/s=-1):
  (∀i,i<N->FinC (exF kind N r q s x i))/\nS N (λi=>vC (exF kind N r q s x i))<=RR.of (8*((N:Rat)*((N:Rat)*D))):=by
 obtain⟨t1,t2,t3,t4⟩:=up_ok
 have hbad:(Fo.cons kind (N:Int) r q .nil).bad ([N].map λk:Nat=>(k:Int)) false=0:=by
  unfold checkE at hc
  rw[if_neg (by omega)] at hc
  by_cases h:64<1+q.count
  ·rw[if_pos h] at hc;omega
  ·rw[if_neg h] at hc;exact hc
 obtain⟨G,-⟩:=plainSide FW (λp hp h3 hle=>pws_small p hp h3 hle) t4 t1 t2 t3 _ [N] hbad (λk hk=>by
  rcases List.mem_cons.1 hk with rfl|hk
  ·exact⟨h1,hN⟩
  ·cases hk)
 have nx:nS N (λi=>vC (x i))<=(N:RR)*RR.of D:=by
  have h:nS N (λi=>vC (x i))<=sumF N λ_=>RR.of D:=sumR_le λi hi=>(hx i hi).2
  rw[sumR_const] at h
  exact h
 have ht:65536*FW.τ<=RR.of D:=by
  have hz:RR.of 1<=RR.of D:=RR.of_le.2 hD1
  have h2:=FW.u1
  have h3:=FW.u0
  have e1:(1:RR)=RR.of 1:=rfl
  rw[<-e1] at hz
  grind
 have hN0:=RR.nat_nn N
 have hA:nS N (λi=>vC (x i))+(N:RR)*(65536*FW.τ)<=2*((N:RR)*RR.of D):=by
  have:=mul_le_l hN0 ht
  grind
 have hR0:=RR.nat_nn (rn N)
 have hgb:goodB N=true:=List.all_eq_true.1 goodB_all N (List.mem_range.2 (by omega))
 have hgb2:rn N*(1024*N)<=113078212145816597093331040047546785012958969400039613319782796882727665664:=ble_le hgb
 have hM:(nS N (λi=>vC (x i))+(N:RR)*(65536*FW.τ))*(rn N:RR)<=oM:=by
  have h5:=mul_le_r hR0 hA
  have e:2*((N:RR)*RR.of D)*(rn N:RR)=RR.of (2*((N:Rat)*D)*(rn N:Rat)):=rfl
  have h6:RR.of (2*((N:Rat)*D)*(rn N:Rat))<=oM:=by
   refine RR.of_le.2 ?_
   have h7:=Rat.natCast_le_natCast.2 hgb2
   rw[Rat.natCast_mul,Rat.natCast_mul] at h7
   have z:((1024:Nat):Rat)=1024:=rfl
   have z2:((113078212145816597093331040047546785012958969400039613319782796882727665664:Nat):Rat)=113078212145816597093331040047546785012958969400039613319782796882727665664:=rfl
   rw[z,z2] at h7
   have h8:=Rat.mul_nonneg (a:=113078212145816597093331040047546785012958969400039613319782796882727665664-(rn N:Rat)*(1024*(N:Rat))) (b:=D) (by grind) (by grind)
   grind
  rw[e] at h5
  exact Std.IsPreorder.le_trans _ _ _ h5 h6
 have e0:((N:Int)).toNat=N:=Int.toNat_natCast _
 have hG:=G s hs x (65536*FW.τ) (λi hi=>(hx i hi).1) (Std.IsPreorder.le_refl _) hM
 rw[e0] at hG
 have hex:∀i,nodeF FW.R pwF kind N r.toNat q.sizes (q.runs FW.R pwF) s x i=exF kind N r q s x i:=λi=>by unfold exF;rw[e0];rfl
 obtain⟨hfin,herr⟩:=hG
 refine⟨λi hi=>by rw[<-hex i];exact hfin i hi,?_⟩
 have hcn:GoodN (FW.up (65536*FW.τ) t1 t2 t3) N (nodeF FW.R pwF kind N r.toNat q.sizes (q.runs FW.R pwF)) (cn N) (rn N):=by
  have:=G
  rw[e0] at this
  exact this
 have hg8:8192*((cn N:RR)*FW.u)<=1:=nat_small FW (by
  have:chkC N=true:=List.all_eq_true.1 chkC_all N (List.mem_range.2 (by omega))
  exact ble_le this)
 have hg0:=nat_cu FW (cn N)
 obtain⟨A,hAe⟩:∃A,nS N (λi=>vC (x i))+(N:RR)*(65536*FW.τ)=A:=⟨_,rfl⟩
 have herr2:nS N (λi=>vC (exF kind N r q s x i)-dft rtE N s (λi=>vC (x i)) i)<=(N:RR)*(((cn N:RR)*FW.u)*((cn N:RR)*FW.u)*A):=by
  rw[<-hAe]
  have e:nS N (λi=>vC (exF kind N r q s x i)-dft rtE N s (λi=>vC (x i)) i)=nS N (λi=>vC (nodeF FW.R pwF kind N r.toNat q.sizes (q.runs FW.R pwF) s x i)-dft rtE N s (λi=>vC (x i)) i):=nS_congr λi _=>by rw[hex i]
  rw[e]
  exact herr
 have hS:=nS_nonneg N (λi=>vC (x i))
 have ht0:0<=(N:RR)*(65536*FW.τ):=RR.mul_nn hN0 (by have:=FW.τ0;grind)
 have hA0:0<=A:=by grind
 have hpar:nS N (dft rtE N s λi=>vC (x i))<=1*1*((N:RR)*A):=by
  rw[parseval (rts_E N) (λn a n1 _=>rtE_conj n n1 a) h1 (Nat.dvd_refl _) hs]
  have:=mul_le_l hN0 (show nS N (λi=>vC (x i))<=A by grind)
  grind
 have hNA:=RR.mul_nn hN0 hA0
 have herr3:nS N (λi=>vC (exF kind N r q s x i)-dft rtE N s (λi=>vC (x i)) i)<=1*1*((N:RR)*A):=by
  have h5:=sq_mono (a:=(cn N:RR)*FW.u) (b:=1) (A:=A) hg0 (by grind) hA0
  have h6:=mul_le_l hN0 h5
  grind
 have htri:=nS_tri (n:=N) (f:=dft rtE N s λi=>vC (x i)) (g:=λi=>vC (exF kind N r q s x i)-dft rtE N s (λi=>vC (x i)) i) (α:=1) (β:=1) (A:=(N:RR)*A) (by grind) (by grind) hpar herr3
 have ef:nS N (λk=>dft rtE N s (λi=>vC (x i)) k+(vC (exF kind N r q s x k)-dft rtE N s (λi=>vC (x i)) k))=nS N λi=>vC (exF kind N r q s x i):=nS_congr λk _=>by grind
 rw[ef] at htri
 have h9:=mul_le_l hN0 (show A<=2*((N:RR)*RR.of D) by rw[<-hAe];exact hA)
 have e8:8*((N:RR)*((N:RR)*RR.of D))=RR.of (((8:Nat):Rat)*((N:Rat)*((N:Rat)*D))):=rfl
 have z:((8:Nat):Rat)=8:=rfl
 rw[z] at e8
 rw[<-e8]
 grind
theorem plan_finite(kind r:Int)(q:Fo)(N:Nat)(h1:1<=N)(hN:N<=300)(hc:checkE kind N r q N=0)(x:Nat->Cx)(hx:∀i,i<N->FinC (x i)/\nsq (vC (x i))<=RR.of (om*om/56539106072908298546665520023773392506479484700019806659891398441363832832))(s:Int)(hs:s=1\/s=-1):
  (∀i,i<N->FinC (exF kind N r q s x i))/\nS N (λi=>vC (exF kind N r q s x i))<=oM:=by
 obtain⟨D,hD⟩:∃D:Rat,om*om/56539106072908298546665520023773392506479484700019806659891398441363832832=D:=⟨_,rfl⟩
 rw[hD] at hx
 have hoD:om*om/256*256=D*56539106072908298546665520023773392506479484700019806659891398441363832832:=by rw[<-hD];grind
 have hD1:(1:Rat)<=D:=by
  have h4:=om_200
  have k2:=Rat.mul_nonneg (a:=om-1606938044258990275541962092341162602522202993782792835301376) (b:=om) (by grind) (by grind)
  rw[<-hD]
  grind
 obtain⟨k1,k2⟩:=plan_grow kind r q N h1 hN hc D hD1 (by grind) x hx s hs
 refine⟨k1,Std.IsPreorder.le_trans _ _ _ k2 (RR.of_le.2 ?_)⟩
 have h7:=Rat.natCast_le_natCast.2 hN
 have z3:((300:Nat):Rat)=300:=rfl
 rw[z3] at h7
 have h8:(0:Rat)<=(N:Rat):=Rat.natCast_nonneg
 have h11:=(mulle (a:=(N:Rat)) (b:=(N:Rat)) (A:=300) (B:=300) (by grind) h7 (by grind) h7).2
 have h12:=Rat.mul_nonneg (a:=300*300-(N:Rat)*(N:Rat)) (b:=D) (by grind) (by grind)
 grind
end CG
end Go.Proofs.YtmgfaeineklccaaGreat
