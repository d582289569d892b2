/- Square roots of floats: how far off. -/
import Derived.Test.YtfedabinindpbaaGreatTA
import Derived.Test.YtfedabinindpbaaGreatMA4
set_option linter.unusedSimpArgs false
set_option linter.unusedVariables false
namespace Fl
open Ieee
theorem rootFrom_spec(n:Nat):∀(t r:Nat),r*r<=n->n<(r+2^t)*(r+2^t)->Datum.rootFrom n t r*Datum.rootFrom n t r<=n/\n<(Datum.rootFrom n t r+1)*(Datum.rootFrom n t r+1)
 |0,r,h1,h2=>⟨h1,h2⟩
 |t+1,r,h1,h2=>by
   unfold Datum.rootFrom
   simp only
   rw[Nat.shiftLeft_eq,Nat.one_mul]
   split
   ·rename_i h
    refine rootFrom_spec n t _ h ?_
    have:r+2^t+2^t=r+2^(t+1):=by rw[Nat.pow_succ];omega
    rw[this];exact h2
   ·rename_i h
    exact rootFrom_spec n t _ h1 (by omega)
def fsqrt(x:Nat):Option Nat:=D.sqrt x
theorem sq_int{m q n:Nat}{e:Nat}(hq:q*q<=n)(hq2:n<(q+1)*(q+1))(hm:m=2*q+e)(he:e=0/\q*q=n\/e=1/\q*q≠n):
  m*m<=4*n+2*m/\4*n<=m*m+2*m:=by
 rw[Nat.add_mul,Nat.mul_add,Nat.one_mul,Nat.mul_one] at hq2
 subst hm
 rcases he with⟨h1,h2⟩|⟨h1,h2⟩<;>subst h1
 ·have e1:(2*q+0)*(2*q+0)=4*(q*q):=by rw[Nat.add_zero,Nat.mul_mul_mul_comm]
  omega
 ·have e1:(2*q+1)*(2*q+1)=4*(q*q)+4*q+1:=by
    rw[Nat.add_mul,Nat.mul_add,Nat.mul_add,Nat.one_mul,Nat.mul_one,Nat.mul_mul_mul_comm];omega
  omega
theorem lt_of_sq_lt{a b:Nat}(h:a*a<b*b):a<b:=by
 apply Decidable.byContradiction
 intro hc
 have:=Nat.mul_le_mul (show b<=a by omega) (show b<=a by omega)
 omega
theorem fsqrt_spec{x L:Nat}(hx:Fnt x)(hL:L=1060)(h0:2^L<=iv x):
  ∃(r:Nat) (R N:Int),fsqrt x=some r/\Fnt r/\iv r=R/\0<N/\2^53*(R-N)<=N/\2^53*(N-R)<=N/\
   2^53*(N*N-iv x*2^U)<=N*N/\2^53*(iv x*2^U-N*N)<=N*N:=by
 obtain⟨s,m,k,h1,h2,h3,h4,h5⟩:=read_fin hx
 have hp:(0:Int)<2^L:=pow_pos_int _
 have hk:(0:Int)<2^k:=pow_pos_int _
 have hs:s=false:=by
  cases s
  ·rfl
  ·exfalso
   simp only[if_true] at h5
   have:(0:Int)<=(m:Int)*2^k:=Int.mul_nonneg (by omega) (by omega)
   rw[h5,Int.mul_assoc] at h0
   omega
 subst hs
 simp only[Bool.false_eq_true,if_false,Int.one_mul] at h5
 have hm0:m≠0:=by
  intro h
  rw[h] at h5
  simp at h5
  omega
 have hk2:1000<=k:=by
  apply Decidable.byContradiction
  intro hc
  have a1:m*2^k<2^53*2^k:=Nat.mul_lt_mul_of_pos_right h2 (Nat.two_pow_pos _)
  have a2:2^53*2^k<=2^L:=by rw[<-Nat.pow_add];exact Nat.pow_le_pow_right (by omega) (by omega)
  have a3:((m*2^k:Nat):Int)<((2^L:Nat):Int):=by omega
  rw[Int.natCast_mul,Int.natCast_pow,Int.natCast_pow] at a3
  have e2:((2:Nat):Int)=2:=rfl
  rw[e2] at a3
  omega
 obtain⟨g,hg⟩:∃g:Nat,g=(if((k:Int)-1074-((108-m.log2:Nat):Int))%2=0 then 108-m.log2 else 109-m.log2):=⟨_,rfl⟩
 have hl:m.log2<=52:=by
  have:=(Nat.log2_lt hm0 (k:=53)).2 h2
  omega
 have hge:∃j:Nat,(k:Int)-1074-(g:Int)=2*((j:Int)-1073)/\g+m.log2<=109/\108<=g+m.log2:=by
  refine⟨(((k:Int)-1074-g)/2+1073).toNat,?_⟩
  rw[hg]
  split<;>omega
 obtain⟨j,hj,hg1,hg2⟩:=hge
 obtain⟨n,hn⟩:∃n,n=m*2^g:=⟨_,rfl⟩
 have hnl:n.log2=m.log2+g:=by rw[hn,log2_shift _ _ hm0]
 have hn0:n≠0:=by rw[hn];exact Nat.mul_ne_zero hm0 (Nat.pos_iff_ne_zero.1 (Nat.two_pow_pos _))
 have hnl1:2^108<=n:=Nat.le_trans (Nat.pow_le_pow_right (by omega) (by omega)) (Nat.log2_self_le hn0)
 have hnl2:n<2^110:=Nat.lt_of_lt_of_le Nat.lt_log2_self (Nat.pow_le_pow_right (by omega) (by omega))
 obtain⟨q,hq⟩:∃q,q=Datum.rootFrom n (n.log2/2+1) 0:=⟨_,rfl⟩
 have hspec:=rootFrom_spec n (n.log2/2+1) 0 (by omega) (by
  rw[Nat.zero_add,<-Nat.pow_add]
  exact Nat.lt_of_lt_of_le Nat.lt_log2_self (Nat.pow_le_pow_right (by omega) (by omega)))
 rw[<-hq] at hspec
 obtain⟨q1,q2⟩:=hspec
 obtain⟨e,he⟩:∃e,e=(q*q != n).toNat:=⟨_,rfl⟩
 have he2:e=0/\q*q=n\/e=1/\q*q≠n:=by
  by_cases h:q*q=n
  ·left;refine⟨?_,h⟩;rw[he];simp[h]
  ·right;refine⟨?_,h⟩;rw[he];simp[h]
 obtain⟨M,hM⟩:∃M,M=2*q+e:=⟨_,rfl⟩
 obtain⟨b1,b2⟩:=sq_int q1 q2 hM he2
 have hq54:2^54<=q:=by
  have:2^54*2^54<(q+1)*(q+1):=by
   have e5:2^54*2^54=2^108:=by decide
   omega
  have:=lt_of_sq_lt this
  omega
 have hq55:q<2^55:=by
  refine lt_of_sq_lt ?_
  have e5:2^55*2^55=2^110:=by decide
  omega
 have hroot:(D.read x).root (D.fractionBits+2)=some (.number false M ((j:Int)-1074)):=by
  rw[h1]
  have ef:D.fractionBits+2=54:=rfl
  rw[ef]
  unfold Datum.root
  simp only[hm0,if_false,Bool.false_eq_true]
  have eg:2*54-m.log2+(((k:Int)-1074-((2*54-m.log2:Nat):Int))%2).toNat=g:=by
   rw[hg]
   split<;>omega
  rw[eg,Nat.shiftLeft_eq,<-hn,<-hq,<-he,<-hM,hj]
  congr 2
  omega
 obtain⟨N,hN⟩:∃N,N=M*2^j:=⟨_,rfl⟩
 have hNb:N<2^(Bt+0):=by
  have hBt:=Bt_eq
  rw[hN]
  have a1:M*2^j<2^57*2^j:=Nat.mul_lt_mul_of_pos_right (by omega) (Nat.two_pow_pos _)
  have a2:2^57*2^j<=2^(Bt+0):=by rw[<-Nat.pow_add];exact Nat.pow_le_pow_right (by omega) (by omega)
  omega
 obtain⟨f1,f2⟩:=nearest_spec false M ((j:Int)-1074) 0 N (by omega) (by rw[hN];congr 2;omega) hNb
 simp only[Bool.false_eq_true,if_false,Int.one_mul,rns_zero] at f2
 have hNpos:0<N:=by rw[hN];exact Nat.mul_pos (by omega) (Nat.two_pow_pos _)
 have hr:=rnd_rel (N:Int)
 have er:rnd (N:Int)=(rn N:Int):=by
  unfold rnd
  rw[if_neg (by omega)]
  rfl
 rw[er,Int.natAbs_natCast] at hr
 have hV:iv x*2^U=((4*n*(2^j*2^j):Nat):Int):=by
  rw[h5,hn]
  have e1:(m:Int)*2^k*2^U=((m*(2^k*2^U):Nat):Int):=by
   rw[Int.natCast_mul,Int.natCast_mul,Int.natCast_pow,Int.natCast_pow,Int.mul_assoc];rfl
  rw[e1]
  congr 1
  have e2:4*(m*2^g)*(2^j*2^j)=m*(2^2*2^g*(2^j*2^j)):=by
   have:(2:Nat)^2=4:=rfl
   rw[this]
   grind
  rw[e2,<-Nat.pow_add,<-Nat.pow_add,<-Nat.pow_add,<-Nat.pow_add]
  congr 2
  rw[U_eq]
  omega
 have hNN:(N:Int)*N=((M*M*(2^j*2^j):Nat):Int):=by
  rw[<-Int.natCast_mul,hN]
  congr 1
  rw[Nat.mul_mul_mul_comm]
 refine⟨D.nearest false M ((j:Int)-1074),_,N,?_,f1,f2,by omega,hr.1,hr.2,?_,?_⟩
 ·unfold fsqrt Format.sqrt
  rw[hroot];rfl
 ·rw[hV,hNN]
  have a0:2^53*(2*M)<=M*M:=by
   rw[<-Nat.mul_assoc]
   exact Nat.mul_le_mul_right _ (by omega)
  have a1:2^53*(M*M)<=2^53*(4*n)+M*M:=by omega
  have a2:=Nat.mul_le_mul_right (2^j*2^j) a1
  rw[Nat.add_mul,Nat.mul_assoc (2^53),Nat.mul_assoc (2^53)] at a2
  generalize M*M*(2^j*2^j)=A at*
  generalize 4*n*(2^j*2^j)=B at*
  omega
 ·rw[hV,hNN]
  have a0:2^53*(2*M)<=M*M:=by
   rw[<-Nat.mul_assoc]
   exact Nat.mul_le_mul_right _ (by omega)
  have a1:2^53*(4*n)<=2^53*(M*M)+M*M:=by omega
  have a2:=Nat.mul_le_mul_right (2^j*2^j) a1
  rw[Nat.add_mul,Nat.mul_assoc (2^53),Nat.mul_assoc (2^53)] at a2
  generalize M*M*(2^j*2^j)=A at*
  generalize 4*n*(2^j*2^j)=B at*
  omega
end Fl
namespace Go.Proofs.YtfedabinindpbaaGreat
namespace CG
open Fl
theorem sq_between{u N R:Rat}(u0:0<=u)(u1:u<=1)(hN:0<N)(h1:R-N<=u*N)(h2:N-R<=u*N):0<=R/\R*R<=N*N+3*u*(N*N)/\N*N<=R*R+2*u*(N*N):=by
 have hR:0<=R:=by
  have:=Rat.mul_le_mul_of_nonneg_right u1 (Rat.le_of_lt hN)
  grind
 have hNN:=Rat.mul_nonneg (Rat.le_of_lt hN) (Rat.le_of_lt hN)
 have huN:=Rat.mul_nonneg u0 (Rat.le_of_lt hN)
 refine⟨hR,?_,?_⟩
 ·have a1:=Rat.mul_nonneg (a:=N+u*N-R) (b:=N+u*N+R) (by grind) (by grind)
  have a2:=Rat.mul_le_mul_of_nonneg_right u1 (Rat.mul_nonneg u0 hNN)
  grind
 ·by_cases h:N<=R
  ·have a1:=Rat.mul_nonneg (a:=R-N) (b:=R+N) (by grind) (by grind)
   have a2:=Rat.mul_nonneg u0 hNN
   grind
  ·have a1:=Rat.mul_nonneg (a:=N-R) (b:=u*N-(N-R)) (by grind) (by grind)
   have a2:=Rat.mul_nonneg (a:=N) (b:=u*N-(N-R)) (by grind) (by grind)
   have a3:=Rat.mul_nonneg (a:=N-R) (b:=N-R) (by grind) (by grind)
   grind
theorem sqrt_val{x L:Nat}(hx:Fnt x)(hL:L=1060)(h0:2^L<=iv x):∃r,fsqrt x=some r/\Fnt r/\0<=rv r/\rv r*rv r-rv x<=8*uu*rv x/\rv x-rv r*rv r<=8*uu*rv x:=by
 obtain⟨r,R,N,e1,e2,e3,e4,e5,e6,e7,e8⟩:=fsqrt_spec hx hL h0
 refine⟨r,e1,e2,?_⟩
 obtain⟨ux,hu⟩:=ul_unit
 have hq:=uu_eq
 have hs:=uu_small
 have s5:=Rat.intCast_le_intCast.2 e5
 have s6:=Rat.intCast_le_intCast.2 e6
 have s7:=Rat.intCast_le_intCast.2 e7
 have s8:=Rat.intCast_le_intCast.2 e8
 have hN:(0:Rat)<(N:Rat):=by
  have:=Rat.intCast_lt_intCast.2 e4
  exact this
 have hP:(((2:Int)^U:Int):Rat)=(((2^U:Nat):Nat):Rat):=by rw[<-Rat.intCast_natCast,Int.natCast_pow];rfl
 simp only[Rat.intCast_mul,Rat.intCast_sub] at s5 s6 s7 s8
 rw[show(((2:Int)^53:Int):Rat)=9007199254740992 from rfl] at s5 s6 s7 s8
 rw[hP] at s7 s8
 have hrv:rv x=(iv x:Rat)*(((2^U:Nat):Nat):Rat)*(ul*ul):=by
  unfold rv
  have:(iv x:Rat)*(((2^U:Nat):Nat):Rat)*(ul*ul)=(iv x:Rat)*ul*(ul*(((2^U:Nat):Nat):Rat)):=by grind
  rw[this,ux,Rat.mul_one]
 have hrr:rv r=(R:Rat)*ul:=by unfold rv;rw[e3]
 generalize (iv x:Rat)*(((2^U:Nat):Nat):Rat)=V at*
 generalize (N:Rat)=n at*
 generalize (R:Rat)=q at*
 have t5:q-n<=uu*n:=by
  have:=Rat.mul_le_mul_of_nonneg_left s5 (Rat.le_of_lt hq.2)
  have e:uu*(9007199254740992*(q-n))=q-n:=by
   have:uu*(9007199254740992*(q-n))=uu*9007199254740992*(q-n):=by grind
   rw[this,hq.1,Rat.one_mul]
  rw[e] at this;exact this
 have t6:n-q<=uu*n:=by
  have:=Rat.mul_le_mul_of_nonneg_left s6 (Rat.le_of_lt hq.2)
  have e:uu*(9007199254740992*(n-q))=n-q:=by
   have:uu*(9007199254740992*(n-q))=uu*9007199254740992*(n-q):=by grind
   rw[this,hq.1,Rat.one_mul]
  rw[e] at this;exact this
 have t7:n*n-V<=uu*(n*n):=by
  have:=Rat.mul_le_mul_of_nonneg_left s7 (Rat.le_of_lt hq.2)
  have e:uu*(9007199254740992*(n*n-V))=n*n-V:=by
   have:uu*(9007199254740992*(n*n-V))=uu*9007199254740992*(n*n-V):=by grind
   rw[this,hq.1,Rat.one_mul]
  rw[e] at this;exact this
 have t8:V-n*n<=uu*(n*n):=by
  have:=Rat.mul_le_mul_of_nonneg_left s8 (Rat.le_of_lt hq.2)
  have e:uu*(9007199254740992*(V-n*n))=V-n*n:=by
   have:uu*(9007199254740992*(V-n*n))=uu*9007199254740992*(V-n*n):=by grind
   rw[this,hq.1,Rat.one_mul]
  rw[e] at this;exact this
 obtain⟨b1,b2,b3⟩:=sq_between (u:=uu) (Rat.le_of_lt hq.2) (by grind) hN t5 t6
 have hnn:=Rat.mul_nonneg (Rat.le_of_lt hN) (Rat.le_of_lt hN)
 have hul:=Rat.mul_nonneg (Rat.le_of_lt hu) (Rat.le_of_lt hu)
 have c1:uu*(n*n)<=2*(uu*V):=by
  have a1:=Rat.mul_le_mul_of_nonneg_left t7 (Rat.le_of_lt hq.2)
  have a2:=Rat.mul_le_mul_of_nonneg_right hs.2 (Rat.mul_nonneg (Rat.le_of_lt hq.2) hnn)
  grind
 have c2:q*q-V<=8*uu*V:=by grind
 have c3:V-q*q<=8*uu*V:=by grind
 have d2:=Rat.mul_le_mul_of_nonneg_right c2 hul
 have d3:=Rat.mul_le_mul_of_nonneg_right c3 hul
 rw[hrv,hrr]
 refine⟨Rat.mul_nonneg b1 (Rat.le_of_lt hu),?_,?_⟩<;>grind
theorem roots_near{S s l f g e:Rat}(hS:0<S)(e0:0<=e)(e1:e<=1/16)(f0:0<=f)(g0:0<=g)(f1:f*f<=S+e*S)(f2:S-e*S<=f*f)(g1:g*g<=S+e*S)(g2:S-e*S<=g*g):f-g<=4*e*f/\g-f<=4*e*f:=by
 have hSe:=Rat.mul_le_mul_of_nonneg_right e1 (Rat.le_of_lt hS)
 have h1:S<=2*(f*f):=by grind
 have h2:=Rat.mul_le_mul_of_nonneg_left h1 e0
 have hef:=Rat.mul_nonneg e0 f0
 have hfp:0<f:=by
  apply Classical.byContradiction
  intro hc
  have h:f=0:=by grind
  rw[h] at h1
  grind
 constructor
 ·apply Classical.byContradiction
  intro hc
  have a1:4*e*f<f-g:=by grind
  have a2:=Rat.mul_pos (a:=f-g-4*e*f) (b:=f+g) (by grind) (by grind)
  have a3:=Rat.mul_nonneg hef g0
  grind
 ·apply Classical.byContradiction
  intro hc
  have a1:4*e*f<g-f:=by grind
  have a2:=Rat.mul_pos (a:=g-f-4*e*f) (b:=f+g) (by grind) (by grind)
  have a3:=Rat.mul_nonneg hef g0
  grind
end CG
end Go.Proofs.YtfedabinindpbaaGreat
namespace Go.Proofs.YtfedabinindpbaaGreat
namespace CG
open Fl
theorem le_sqL{a b:Rat}(hb:0<=b)(h:a*a<=b*b):a<=b/\-a<=b:=by
 constructor
 ·apply Classical.byContradiction
  intro hc
  have:=Rat.mul_pos (a:=a-b) (b:=a-b+2*a) (by grind) (by grind)
  have:=Rat.mul_nonneg (a:=a-b) (b:=b) (by grind) hb
  have:=Rat.mul_pos (a:=a-b) (b:=a-b) (by grind) (by grind)
  grind
 ·apply Classical.byContradiction
  intro hc
  have:=Rat.mul_nonneg (a:=-a-b) (b:=b) (by grind) hb
  have:=Rat.mul_pos (a:=-a-b) (b:=-a-b) (by grind) (by grind)
  grind
theorem sq_err{u l P m:Rat}(u0:0<=u)(l0:0<=l)(hP:0<=P)(h:(m-P)*(m-P)<=2*(u*u*(P*P))+l*l):m-P<=2*u*P+l/\P-m<=2*u*P+l:=by
 have hu:=Rat.mul_nonneg u0 hP
 have h1:=Rat.mul_nonneg hu hu
 have h2:=Rat.mul_nonneg hu l0
 have:=le_sqL (a:=m-P) (b:=2*u*P+l) (by grind) (by grind)
 constructor<;>grind
theorem sq_near{p v l:Rat}(l0:0<=l)(l1:l<=1/1024)(v1:v<=1)(v2:-v<=1)(h1:p-v<=2*l)(h2:v-p<=2*l):p*p-v*v<=5*l/\v*v-p*p<=5*l/\v*v<=1:=by
 have a1:=Rat.mul_nonneg (a:=2*l-(p-v)) (b:=2*l+(p-v)) (by grind) (by grind)
 have a2:=Rat.mul_nonneg (a:=2*l-(p-v)) (b:=1+v) (by grind) (by grind)
 have a3:=Rat.mul_nonneg (a:=2*l-(p-v)) (b:=1-v) (by grind) (by grind)
 have a4:=Rat.mul_nonneg (a:=2*l+(p-v)) (b:=1+v) (by grind) (by grind)
 have a5:=Rat.mul_nonneg (a:=2*l+(p-v)) (b:=1-v) (by grind) (by grind)
 have a6:=Rat.mul_le_mul_of_nonneg_right l1 l0
 have a7:=Rat.mul_nonneg (a:=1-v) (b:=1+v) (by grind) (by grind)
 have a8:=Rat.mul_nonneg (a:=p-v) (b:=p-v)
 refine⟨by grind,?_,by grind⟩
 by_cases h:v<=p
 ·have:=a8 (by grind) (by grind);grind
 ·have:=Rat.mul_nonneg (a:=v-p) (b:=v-p) (by grind) (by grind);grind
theorem len_step{u l s m t p v A S c:Rat}(u0:0<u)(u1:u<=1/1024)(l0:0<=l)(l1:64*l<=u)(hS:1/4<=S)(c0:0<=c)(c1:c<=1/4)(hA0:0<=A)(hA:A+v*v<=S)(hs1:s-A<=c*S)(hs2:A-s<=c*S)(v1:v<=1)(v2:-v<=1)(h1:p-v<=2*l)(h2:v-p<=2*l)(hm:(m-p*p)*(m-p*p)<=2*(u*u*(p*p*(p*p)))+l*l)(ht:(t-(s+m))*(t-(s+m))<=u*u*((s+m)*(s+m))):
  t-(A+v*v)<=(c+8*u)*S/\A+v*v-t<=(c+8*u)*S:=by
 obtain⟨n1,n2,n3⟩:=sq_near l0 (by grind) v1 v2 h1 h2
 have hpp:0<=p*p:=by
  by_cases h:0<=p
  ·exact Rat.mul_nonneg h h
  ·have:=Rat.mul_nonneg (a:=-p) (b:=-p) (by grind) (by grind);grind
 have hvv:0<=v*v:=by
  by_cases h:0<=v
  ·exact Rat.mul_nonneg h h
  ·have:=Rat.mul_nonneg (a:=-v) (b:=-v) (by grind) (by grind);grind
 obtain⟨m1,m2⟩:=sq_err (Rat.le_of_lt u0) l0 hpp hm
 generalize p*p=P at*
 generalize v*v=V at*
 have hVS:V<=S:=by grind
 have e1:=Rat.mul_le_mul_of_nonneg_left (show P<=V+5*l by grind) (Rat.le_of_lt u0)
 have e2:=Rat.mul_le_mul_of_nonneg_left hVS (Rat.le_of_lt u0)
 have e3:=Rat.mul_le_mul_of_nonneg_right u1 l0
 have e4:=Rat.mul_le_mul_of_nonneg_left hS (Rat.le_of_lt u0)
 have e5:=Rat.mul_le_mul_of_nonneg_right c1 (show 0<=S by grind)
 have g1:m-V<=3*u*S:=by grind
 have g2:V-m<=3*u*S:=by grind
 have e6:=Rat.mul_le_mul_of_nonneg_right u1 (show 0<=S by grind)
 have x1:s+m<=2*S:=by grind
 have x2:-(s+m)<=2*S:=by grind
 have hx:(s+m)*(s+m)<=2*S*(2*S):=by
  have:=Rat.mul_nonneg (a:=2*S-(s+m)) (b:=2*S+(s+m)) (by grind) (by grind)
  grind
 have hx2:=Rat.mul_le_mul_of_nonneg_left hx (Rat.mul_nonneg (Rat.le_of_lt u0) (Rat.le_of_lt u0))
 have:=le_sqL (a:=t-(s+m)) (b:=2*u*S) (by have:=Rat.mul_nonneg (Rat.le_of_lt u0) (show 0<=S by grind);grind) (by grind)
 constructor<;>grind
theorem sq_part{u l m p v S:Rat}(u0:0<u)(u1:u<=1/1024)(l0:0<=l)(l1:64*l<=u)(hS:1/4<=S)(v1:v<=1)(v2:-v<=1)(h1:p-v<=2*l)(h2:v-p<=2*l)(hVS:v*v<=S)(hm:(m-p*p)*(m-p*p)<=2*(u*u*(p*p*(p*p)))+l*l):m-v*v<=3*u*S/\v*v-m<=3*u*S:=by
 obtain⟨n1,n2,n3⟩:=sq_near l0 (by grind) v1 v2 h1 h2
 have hpp:0<=p*p:=by
  by_cases h:0<=p
  ·exact Rat.mul_nonneg h h
  ·have:=Rat.mul_nonneg (a:=-p) (b:=-p) (by grind) (by grind);grind
 obtain⟨m1,m2⟩:=sq_err (Rat.le_of_lt u0) l0 hpp hm
 generalize p*p=P at*
 generalize v*v=V at*
 have e1:=Rat.mul_le_mul_of_nonneg_left (show P<=V+5*l by grind) (Rat.le_of_lt u0)
 have e2:=Rat.mul_le_mul_of_nonneg_left hVS (Rat.le_of_lt u0)
 have e3:=Rat.mul_le_mul_of_nonneg_right u1 l0
 have e4:=Rat.mul_le_mul_of_nonneg_left hS (Rat.le_of_lt u0)
 constructor<;>grind
theorem len_step2{u l s m1 m2 w t p v q y A S c:Rat}(u0:0<u)(u1:u<=1/1024)(l0:0<=l)(l1:64*l<=u)(hS:1/4<=S)(c0:0<=c)(c1:c<=1/4)(hA0:0<=A)(hA:A+(v*v+y*y)<=S)(hs1:s-A<=c*S)(hs2:A-s<=c*S)(v1:v<=1)(v2:-v<=1)(h1:p-v<=2*l)(h2:v-p<=2*l)(y1:y<=1)(y2:-y<=1)(h3:q-y<=2*l)(h4:y-q<=2*l)(hm1:(m1-p*p)*(m1-p*p)<=2*(u*u*(p*p*(p*p)))+l*l)(hm2:(m2-q*q)*(m2-q*q)<=2*(u*u*(q*q*(q*q)))+l*l)(hw:(w-(m1+m2))*(w-(m1+m2))<=u*u*((m1+m2)*(m1+m2)))(ht:(t-(s+w))*(t-(s+w))<=u*u*((s+w)*(s+w))):
  t-(A+(v*v+y*y))<=(c+16*u)*S/\A+(v*v+y*y)-t<=(c+16*u)*S:=by
 have hyy:0<=y*y:=by
  by_cases h:0<=y
  ·exact Rat.mul_nonneg h h
  ·have:=Rat.mul_nonneg (a:=-y) (b:=-y) (by grind) (by grind);grind
 have hvv:0<=v*v:=by
  by_cases h:0<=v
  ·exact Rat.mul_nonneg h h
  ·have:=Rat.mul_nonneg (a:=-v) (b:=-v) (by grind) (by grind);grind
 have eu:=Rat.mul_nonneg (Rat.le_of_lt u0) (show 0<=S by grind)
 have eu1:=Rat.mul_le_mul_of_nonneg_right u1 (show 0<=S by grind)
 have g:=sq_part u0 u1 l0 l1 hS v1 v2 h1 h2 (by grind) hm1
 have g':=sq_part u0 u1 l0 l1 hS y1 y2 h3 h4 (by grind) hm2
 generalize v*v=V at*
 generalize y*y=Y at*
 clear hm1 hm2 h1 h2 h3 h4 v1 v2 y1 y2 l1 l0
 have uu0:=Rat.mul_nonneg (Rat.le_of_lt u0) (Rat.le_of_lt u0)
 have e5:=Rat.mul_le_mul_of_nonneg_right c1 (show 0<=S by grind)
 have hx:(m1+m2)*(m1+m2)<=2*S*(2*S):=by
  have:=Rat.mul_nonneg (a:=2*S-(m1+m2)) (b:=2*S+(m1+m2)) (by grind) (by grind)
  grind
 have hx2:=Rat.mul_le_mul_of_nonneg_left hx uu0
 have k1:=le_sqL (a:=w-(m1+m2)) (b:=2*u*S) (by grind) (by grind)
 clear hw hx hx2
 have hz:(s+w)*(s+w)<=2*S*(2*S):=by
  have:=Rat.mul_nonneg (a:=2*S-(s+w)) (b:=2*S+(s+w)) (by grind) (by grind)
  grind
 have hz2:=Rat.mul_le_mul_of_nonneg_left hz uu0
 have k2:=le_sqL (a:=t-(s+w)) (b:=2*u*S) (by grind) (by grind)
 clear ht hz hz2
 constructor<;>grind
theorem ul_uu:64*ul<=uu/\0<=ul/\uu<=1/1024:=by
 obtain⟨ux,hu⟩:=ul_unit
 have hq:=uu_eq
 have hs:=uu_small
 have h:(18446744073709551616:Rat)<=(((2^U:Nat):Nat):Rat):=by
  have:2^64<=2^U:=Nat.pow_le_pow_right (by decide) (by have:=U_eq;omega)
  have:=Rat.natCast_le_natCast.2 this
  exact this
 have h2:=Rat.mul_le_mul_of_nonneg_left h (Rat.le_of_lt hu)
 rw[ux] at h2
 refine⟨by grind,Rat.le_of_lt hu,by grind⟩
end CG
end Go.Proofs.YtfedabinindpbaaGreat
namespace Go.Proofs.YtfedabinindpbaaGreat
namespace CG
open Fl
theorem big_iv{x L:Nat}(hL:L=1060)(h:1/8<=rv x):2^L<=iv x:=by
 apply Decidable.byContradiction
 intro hc
 obtain⟨ux,hu⟩:=ul_unit
 have h1:iv x<=((2^L:Nat):Int):=by rw[Int.natCast_pow];exact Int.le_of_lt (Int.not_le.1 hc)
 have h2:=Rat.intCast_le_intCast.2 h1
 rw[Rat.intCast_natCast] at h2
 have h3:=Rat.mul_le_mul_of_nonneg_right h2 (Rat.le_of_lt hu)
 have h4:((2^L:Nat):Rat)*16384=(((2^U:Nat):Nat):Rat):=by
  have:2^L*16384=2^U:=by have hU:=U_eq;rw[show U=L+14 by omega,Nat.pow_add]
  rw[<-this,Rat.natCast_mul];rfl
 have h5:((2^L:Nat):Rat)*ul*16384=1:=by
  rw[<-ux,<-h4];grind
 unfold rv at h
 grind
theorem roots_end{S:Rat}{s l:Nat}(hs:Fnt s)(hl:Fnt l)(hS:1/4<=S)(hS2:S<=1000)(s1:rv s-S<=2000*uu*S)(s2:S-rv s<=2000*uu*S)(l1:rv l-S<=2000*uu*S)(l2:S-rv l<=2000*uu*S):
  ∃f g,fsqrt s=some f/\fsqrt l=some g/\Fnt f/\Fnt g/\1/4<=rv f/\rv f<=100/\rv f-rv g<=8100*uu*rv f/\rv g-rv f<=8100*uu*rv f/\0<=rv g:=by
 have hu:=uu_small
 have e1:=Rat.mul_le_mul_of_nonneg_right hu.2 (show 0<=S by grind)
 have uS:=Rat.mul_nonneg (Rat.le_of_lt hu.1) (show 0<=S by grind)
 obtain⟨f,f1,f2,f3,f4,f5⟩:=sqrt_val hs rfl (big_iv rfl (by grind))
 obtain⟨g,g1,g2,g3,g4,g5⟩:=sqrt_val hl rfl (big_iv rfl (by grind))
 have us:=Rat.mul_le_mul_of_nonneg_left (show rv s<=2*S by grind) (Rat.le_of_lt hu.1)
 have ul':=Rat.mul_le_mul_of_nonneg_left (show rv l<=2*S by grind) (Rat.le_of_lt hu.1)
 have b1:rv f*rv f<=S+2020*uu*S:=by grind
 have b2:S-2020*uu*S<=rv f*rv f:=by grind
 have b3:rv g*rv g<=S+2020*uu*S:=by grind
 have b4:S-2020*uu*S<=rv g*rv g:=by grind
 obtain⟨n1,n2⟩:=roots_near (S:=S) (s:=S) (l:=S) (e:=2020*uu) (by grind) (by grind) (by grind) f3 g3 b1 b2 b3 b4
 have fu:=Rat.mul_nonneg (Rat.le_of_lt hu.1) f3
 refine⟨f,g,f1,g1,f2,g2,?_,?_,by grind,by grind,g3⟩
 ·apply Classical.byContradiction
  intro hc
  have:=Rat.mul_nonneg (a:=1/4-rv f) (b:=1/4+rv f) (by grind) (by grind)
  grind
 ·apply Classical.byContradiction
  intro hc
  have:=Rat.mul_nonneg (a:=rv f-100) (b:=rv f+100) (by grind) (by grind)
  grind
end CG
end Go.Proofs.YtfedabinindpbaaGreat
