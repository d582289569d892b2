/- What Turn gives, against the exact cosines and sines. -/
import Derived.Test.YtmgfaeineklccaaGreatTV
import Derived.Test.YtmgfaeineklccaaGreatMA1
set_option linter.unusedSimpArgs false
set_option linter.unusedVariables false
namespace Go.Proofs.YtmgfaeineklccaaGreat.T
open Go.RowKit Fl
abbrev eighth120:Int:=192994332+320018826*1073741824+571903011*1152921504606846976+843314856*1237940039285380274899124224
def rT(X:Int):Nat->Int
 |0=>1329227995784915872903807060280344576
 |i+1=>rT X i*X/2^120/((i:Int)+1)
def rS(X:Int):Nat->Nat->Int
 |0,_=>0
 |k+1,j=>if k%4=j then rS X k j+rT X k else rS X k j
theorem e120:(2:Int)^120=1329227995784915872903807060280344576:=by decide
theorem rT_bd{X:Int}(h0:0<=X)(h1:X<=1329227995784915872903807060280344576):∀i,0<=rT X i/\rT X i<=1329227995784915872903807060280344576/\rT X (i+1)<=rT X i:=by
 have step:∀i,0<=rT X i->0<=rT X (i+1)/\rT X (i+1)<=rT X i:=by
  intro i hi
  have e:rT X (i+1)=rT X i*X/2^120/((i:Int)+1):=rfl
  have p0:0<=rT X i*X:=Int.mul_nonneg hi h0
  have p1:rT X i*X<=rT X i*1329227995784915872903807060280344576:=Int.mul_le_mul_of_nonneg_left h1 hi
  rw[e,e120]
  obtain⟨y,hy⟩:∃y,y=rT X i*X/1329227995784915872903807060280344576:=⟨_,rfl⟩
  have y0:0<=y:=by rw[hy];exact Int.ediv_nonneg p0 (by omega)
  have y1:y<=rT X i:=by rw[hy];omega
  rw[<-hy]
  have z0:0<=y/((i:Int)+1):=Int.ediv_nonneg y0 (by omega)
  have z1:y/((i:Int)+1)<=y:=Int.ediv_le_self _ y0
  omega
 have all:∀i,0<=rT X i/\rT X i<=1329227995784915872903807060280344576:=by
  intro i
  induction i with
  |zero=>exact⟨by show(0:Int)<=1329227995784915872903807060280344576;omega,Int.le_refl _⟩
  |succ i ih=>have:=step i ih.1;omega
 intro i
 exact⟨(all i).1,(all i).2,(step i (all i).1).2⟩
end Go.Proofs.YtmgfaeineklccaaGreat.T
namespace Go.Proofs.YtmgfaeineklccaaGreat.T
open Fl
theorem mb{a b A B:Int}(h1:-A<=a)(h2:a<=A)(h3:-B<=b)(h4:b<=B):-(A*B)<=a*b/\a*b<=A*B:=by
 have ha:(a.natAbs:Int)<=A:=by omega
 have hb:(b.natAbs:Int)<=B:=by omega
 have h:=Int.mul_le_mul ha hb (by omega) (by omega)
 rw[<-Int.natCast_mul,<-Int.natAbs_mul] at h
 omega
theorem cmp_prog{S K X Z T T' P u m:Int}(hS:0<S)(u1:u*S-T*(-P)<=16*(K*S))(u2:-(16*(K*S))<=u*S-T*(-P))(v1:m*T'-u<=256*K)(v2:-(256*K)<=m*T'-u)(p1:P*S-X*X<=16*(K*S))(p2:-(16*(K*S))<=P*S-X*X)(T1:T<=S)(T2:-S<=T)(Z0:0<=Z)(Z1:Z<=S):
  -(288*(K*S*S)*S)<=(m*T'*(S*S)+T*(X*X))*Z/\(m*T'*(S*S)+T*(X*X))*Z<=288*(K*S*S)*S:=by
 have c1:-(272*(K*S))<=m*T'*S+T*P/\m*T'*S+T*P<=272*(K*S):=by
  have q1:=Int.mul_le_mul_of_nonneg_right v1 (show 0<=S by omega)
  have q2:=Int.mul_le_mul_of_nonneg_right v2 (show 0<=S by omega)
  constructor<;>grind
 have c2:=mb T2 T1 p2 p1
 have c3:-(288*(K*S*S))<=m*T'*(S*S)+T*(X*X)/\m*T'*(S*S)+T*(X*X)<=288*(K*S*S):=by
  have q1:=Int.mul_le_mul_of_nonneg_right c1.1 (show 0<=S by omega)
  have q2:=Int.mul_le_mul_of_nonneg_right c1.2 (show 0<=S by omega)
  clear c1 u1 u2 v1 v2 p1 p2
  constructor<;>grind
 exact mb c3.1 c3.2 (show-S<=Z by omega) Z1
theorem cmp_doc1{S Y a b t0 t1 t2:Int}(a1:a*t1*S<=t0*Y)(b1:b*t2*S<=t1*Y)(Y0:0<=Y)(hS:0<=S)(a0:0<=a):a*b*t2*(S*S)<=t0*(Y*Y):=by
 have q1:=Int.mul_le_mul_of_nonneg_right a1 Y0
 have q2:=Int.mul_le_mul_of_nonneg_right b1 (show 0<=a*S from Int.mul_nonneg a0 hS)
 clear a1 b1
 grind
theorem cmp_doc2{S Y K D a b t0 t1 t2:Int}(a2:t0*Y<=a*(t1+D)*S)(b2:t1*Y<=b*(t2+D)*S)(Y0:0<=Y)(YS:Y<=S)(hS:0<=S)(a0:0<=a)(hD:(a*b+a)*D<=K)(hD0:0<=D):
  t0*(Y*Y)<=a*b*t2*(S*S)+K*(S*S):=by
 have q1:=Int.mul_le_mul_of_nonneg_right a2 Y0
 have q2:=Int.mul_le_mul_of_nonneg_right b2 (show 0<=a*S from Int.mul_nonneg a0 hS)
 have q3:=Int.mul_le_mul_of_nonneg_right hD (show 0<=S*S from Int.mul_nonneg hS hS)
 have q4:=Int.mul_le_mul_of_nonneg_right YS (show 0<=a*D*S from Int.mul_nonneg (Int.mul_nonneg a0 hD0) hS)
 clear a2 b2 YS Y0 hD
 grind
theorem cmp_id1(S K X Y Z T T' m t0 t2 B:Int):100*(m*(T'*Z+1*(t2*S)))*(S*S)=100*((m*T'*(S*S)+T*(X*X))*Z)-100*((T*Z-1*(t0*S))*(X*X))-(X-Y)*(100*(X+Y))*t0*S-100*((t0*(Y*Y)-m*t2*(S*S))*S):=by grind
theorem cmp_id2(S K X Y Z T T' m t0 t2 B:Int):100*(m*(T'*Z+-1*(t2*S)))*(S*S)=100*((m*T'*(S*S)+T*(X*X))*Z)-100*((T*Z- -1*(t0*S))*(X*X))+(X-Y)*(100*(X+Y))*t0*S+100*((t0*(Y*Y)-m*t2*(S*S))*S):=by grind
theorem cmp_id3(S K B:Int):(63*B+110100)*(K*S)*(S*S)=63*(B*(K*S)*(S*S))+28800*(K*S*S*S)+81300*(K*S*S*S):=by grind
theorem cmp_xx{X S:Int}(X0:0<=X)(X1:100*X<=79*S):10000*(X*X)<=6241*(S*S):=by
 have:=Int.mul_le_mul X1 X1 (by omega) (by omega)
 clear X1 X0
 grind
theorem cmp_id5(S K B:Int):B*(K*S)*(6241*(S*S))=6241*(B*(K*S)*(S*S))/\(513*K*(158*S)*S)*S=81054*(K*S*S*S)/\288*(K*S*S)*S=288*(K*S*S*S)/\K*(S*S)*S=K*S*S*S:=by grind
theorem cmp_id6(X d:Int):d*(10000*(X*X))=10000*(d*(X*X)):=by grind
theorem cmp_step{S K D X Y Z T T' P u a b t0 t1 t2 s B:Int}(hS:0<S)(hK:0<=K)(hs:s=1\/s=-1)(u1:u*S-T*(-P)<=16*(K*S))(u2:-(16*(K*S))<=u*S-T*(-P))(v1:a*b*T'-u<=256*K)(v2:-(256*K)<=a*b*T'-u)(p1:P*S-X*X<=16*(K*S))(p2:-(16*(K*S))<=P*S-X*X)(T1:T<=S)(T2:-S<=T)(Z0:0<=Z)(Z1:Z<=S)(X0:0<=X)(X1:100*X<=79*S)(Y0:0<=Y)(Y1:100*Y<=79*S)(e1:X-Y<=513*K)(e2:-(513*K)<=X-Y)(a0:0<=a)(hD:(a*b+a)*D<=K)(hD0:0<=D)(a1:a*t1*S<=t0*Y)(a2:t0*Y<=a*(t1+D)*S)(b1:b*t2*S<=t1*Y)(b2:t1*Y<=b*(t2+D)*S)(t00:0<=t0)(t0S:t0<=S)(d1:T*Z-s*(t0*S)<=B*(K*S))(d2:-(B*(K*S))<=T*Z-s*(t0*S))(hB:0<=B):
  100*(a*b*(T'*Z+s*(t2*S)))<=(63*B+110100)*(K*S)/\-((63*B+110100)*(K*S))<=100*(a*b*(T'*Z+s*(t2*S))):=by
 have KS:0<=K*S:=Int.mul_nonneg hK (by omega)
 have SS:0<=S*S:=Int.mul_nonneg (by omega) (by omega)
 have KSSS:0<=K*S*S*S:=Int.mul_nonneg (Int.mul_nonneg KS (by omega)) (by omega)
 have c4:=cmp_prog hS u1 u2 v1 v2 p1 p2 T1 T2 Z0 Z1
 have x2:=mb (show-(513*K)<=X-Y by omega) e1 (show-(158*S)<=100*(X+Y) by omega) (by omega)
 have c5:=mb x2.1 x2.2 (show-S<=t0 by omega) t0S
 have c5l:=Int.mul_le_mul_of_nonneg_right c5.1 (show 0<=S by omega)
 have c5r:=Int.mul_le_mul_of_nonneg_right c5.2 (show 0<=S by omega)
 have xx:0<=X*X:=Int.mul_nonneg X0 X0
 have xx2:=cmp_xx X0 X1
 have c6:=mb d2 d1 (show-(6241*(S*S))<=10000*(X*X) by omega) xx2
 have y1:=cmp_doc1 a1 b1 Y0 (show 0<=S by omega) a0
 have y2:=cmp_doc2 a2 b2 Y0 (show Y<=S by omega) (show 0<=S by omega) a0 hD hD0
 have z1:=Int.mul_le_mul_of_nonneg_right (show 0<=t0*(Y*Y)-a*b*t2*(S*S) by omega) (show 0<=S by omega)
 have z2:=Int.mul_le_mul_of_nonneg_right (show t0*(Y*Y)-a*b*t2*(S*S)<=K*(S*S) by omega) (show 0<=S by omega)
 have BK:0<=B*(K*S)*(S*S):=Int.mul_nonneg (Int.mul_nonneg hB KS) SS
 have hSS:0<S*S:=Int.mul_pos hS hS
 obtain⟨i1,i2,i3,i4⟩:=cmp_id5 S K B
 have i5:=cmp_id6 X (T*Z-s*(t0*S))
 rw[i5,i1] at c6
 rw[i3] at c4
 rw[i4] at z2
 rw[Int.neg_mul,i2] at c5l
 rw[i2] at c5r
 rw[Int.zero_mul] at z1
 have i7:=cmp_id3 S K B
 suffices h:100*(a*b*(T'*Z+s*(t2*S)))*(S*S)<=(63*B+110100)*(K*S)*(S*S)/\-((63*B+110100)*(K*S)*(S*S))<=100*(a*b*(T'*Z+s*(t2*S)))*(S*S) by
  refine⟨Int.le_of_mul_le_mul_right h.1 hSS,Int.le_of_mul_le_mul_right ?_ hSS⟩
  rw[Int.neg_mul];exact h.2
 rw[i7]
 rcases hs with rfl|rfl
 ·rw[cmp_id1 S K X Y Z T T' (a*b) t0 t2 B]
  generalize (a*b*T'*(S*S)+T*(X*X))*Z=v1 at*
  generalize (T*Z-1*(t0*S))*(X*X)=v2 at*
  generalize (X-Y)*(100*(X+Y))*t0*S=v3 at*
  generalize (t0*(Y*Y)-a*b*t2*(S*S))*S=v4 at*
  generalize B*(K*S)*(S*S)=v5 at*
  generalize K*S*S*S=v6 at*
  clear a1 a2 b1 b2 y1 y2 d1 d2 u1 u2 p1 p2
  omega
 ·rw[cmp_id2 S K X Y Z T T' (a*b) t0 t2 B]
  generalize (a*b*T'*(S*S)+T*(X*X))*Z=v1 at*
  generalize (T*Z- -1*(t0*S))*(X*X)=v2 at*
  generalize (X-Y)*(100*(X+Y))*t0*S=v3 at*
  generalize (t0*(Y*Y)-a*b*t2*(S*S))*S=v4 at*
  generalize B*(K*S)*(S*S)=v5 at*
  generalize K*S*S*S=v6 at*
  clear a1 a2 b1 b2 y1 y2 d1 d2 u1 u2 p1 p2
  omega
def sg:Nat->Int
 |0=>1
 |k+1=>-sg k
theorem sg_one:∀k,sg k=1\/sg k=-1
 |0=>.inl rfl
 |k+1=>by
   show-sg k=1\/-sg k=-1
   rcases sg_one k with h|h<;>rw[h]<;>decide
def bt(f:Nat):Nat->Int
 |0=>513*f
 |k+1=>(63*bt f k+110100)/(100*(((f:Int)+1+2*k)*((f:Int)+1+2*k+1)))+1
def ep(f:Nat):Nat->Int
 |0=>bt f 0
 |k+1=>ep f k+bt f (k+1)+64
def al(t:Nat->Int)(f:Nat):Nat->Int
 |0=>t f
 |k+1=>al t f k+sg (k+1)*t (f+2*(k+1))
structure DocT(S D Y:Int)(t:Nat->Int):Prop where
 a1:∀i:Nat,((i:Int)+1)*t (i+1)*S<=t i*Y
 a2:∀i:Nat,t i*Y<=((i:Int)+1)*(t (i+1)+D)*S
 n0:∀i,0<=t i
 n1:∀i,t i<=S
theorem bt_nonneg(f:Nat):∀k,0<=bt f k
 |0=>by show 0<=513*(f:Int);omega
 |k+1=>by
   have h:=bt_nonneg f k
   have h2:0<=(63*bt f k+110100)/(100*(((f:Int)+1+2*k)*((f:Int)+1+2*k+1))):=
    Int.ediv_nonneg (by omega) (Int.mul_nonneg (by omega) (Int.mul_nonneg (by omega) (by omega)))
   show 0<=_/_+1
   omega
theorem div_bd{N M d C:Int}(hM:0<M)(hC:0<=C)(h1:100*(M*d)<=N*C)(h2:-(N*C)<=100*(M*d)):d<=(N/(100*M)+1)*C/\-((N/(100*M)+1)*C)<=d:=by
 obtain⟨q,hq⟩:∃q,q=N/(100*M):=⟨_,rfl⟩
 have h3:N<=(100*M)*(q+1):=by
  have:=Int.lt_mul_ediv_self_add (x:=N) (k:=100*M) (by omega)
  rw[<-hq] at this
  rw[Int.mul_add];omega
 have h4:=Int.mul_le_mul_of_nonneg_right h3 hC
 rw[<-hq]
 have hM1:0<100*M:=by omega
 have e1:100*(M*d)=(100*M)*d:=by rw[Int.mul_assoc]
 have e2:100*M*(q+1)*C=(100*M)*((q+1)*C):=by rw[Int.mul_assoc]
 rw[e1] at h1 h2
 rw[e2] at h4
 constructor
 ·exact Int.le_of_mul_le_mul_left (by omega) hM1
 ·exact Int.le_of_mul_le_mul_left (a:=100*M) (by rw[Int.mul_neg];omega) hM1
theorem k_scale{S K x:Int}(hSK:S=1267650600228229401496703205376*K):
  (∀y,79228162514264337593543950336*y<=S*S->y<=16*(K*S))/\(∀y,-(S*S)<=79228162514264337593543950336*y->-(16*(K*S))<=y)/\
  (∀y,9903520314283042199192993792*y<=2*S->y<=256*K)/\(∀y,-(2*S)<=9903520314283042199192993792*y->-(256*K)<=y)/\
  (∀y,79228162514264337593543950336*y<=4*S->y<=64*K)/\(∀y,-(4*S)<=79228162514264337593543950336*y->-(64*K)<=y):=by
 have e:S*S=1267650600228229401496703205376*(K*S):=by
  have h:S*S=1267650600228229401496703205376*K*S:=congrArg (·*S) hSK
  rw[h,Int.mul_assoc]
 rw[e]
 refine⟨λy h=>?_,λy h=>?_,λy h=>?_,λy h=>?_,λy h=>?_,λy h=>?_⟩
 ·generalize K*S=a at*;clear e;omega
 ·generalize K*S=a at*;clear e;omega
 ·rw[hSK] at h;omega
 ·rw[hSK] at h;omega
 ·rw[hSK] at h;omega
 ·rw[hSK] at h;omega
theorem T_small{S Q T u T' m:Int}(hS:0<S)(hQ:10*(Q.natAbs:Int)<=7*S)(hm:2<=m)(hT:(T.natAbs:Int)<=S)(u1:79228162514264337593543950336*(u*S-T*Q)<=S*S)(u2:-(S*S)<=79228162514264337593543950336*(u*S-T*Q))(t1:9903520314283042199192993792*(m*T'-u)<=2*S)(t2:-(2*S)<=9903520314283042199192993792*(m*T'-u)):(T'.natAbs:Int)<=S:=by
 have hu:=prod_small hS hQ u1 u2
 have h:=term_small hm hu hS t1 t2
 omega
theorem cmp_all{S K D X Y Z P:Int}{f R:Nat}{T W t:Nat->Int}(hS:0<S)(hSK:S=1267650600228229401496703205376*K)(hK:K=1048576*D)(hf:f<=1)(hR:R<=15)(hp1:79228162514264337593543950336*(P*S-X*X)<=S*S)(hp2:-(S*S)<=79228162514264337593543950336*(P*S-X*X))(hQ:10*(P.natAbs:Int)<=7*S)(hT:SerAll S (-P) f R T W)(Z0:0<=Z)(Z1:Z<=S)(X0:0<=X)(X1:100*X<=79*S)(Y0:0<=Y)(Y1:100*Y<=79*S)(e1:X-Y<=513*K)(e2:-(513*K)<=X-Y)(ht:DocT S D Y t)(s1:S*Z-t f*S<=bt f 0*(K*S))(s2:-(bt f 0*(K*S))<=S*Z-t f*S):
  ∀k,k<=R->((T k).natAbs:Int)<=S/\(T k*Z-sg k*(t (f+2*k)*S)<=bt f k*(K*S)/\-(bt f k*(K*S))<=T k*Z-sg k*(t (f+2*k)*S))/\
   (W k*Z-al t f k*S<=ep f k*(K*S)/\-(ep f k*(K*S))<=W k*Z-al t f k*S):=by
 have hK0:0<=K:=by omega
 have KS:0<=K*S:=Int.mul_nonneg hK0 (by omega)
 obtain⟨k1,k2,k3,k4,k5,k6⟩:=k_scale (x:=0) hSK
 intro k
 induction k with
 |zero=>
   intro _
   rw[hT.t0,hT.w0]
   refine⟨by omega,?_,?_⟩
   ·show S*Z-1*(t f*S)<=_/\_<=S*Z-1*(t f*S)
    rw[Int.one_mul];exact⟨s1,s2⟩
   ·exact⟨s1,s2⟩
 |succ k ih=>
   intro hk
   obtain⟨i1,⟨i2,i3⟩,i4,i5⟩:=ih (by omega)
   obtain⟨⟨u,u1,u2,v1,v2⟩,w1,w2⟩:=hT.rel k (by omega)
   have m2:2<=((f:Int)+1+2*k)*((f:Int)+1+2*k+1):=by
    have:=Int.mul_le_mul (show(1:Int)<=(f:Int)+1+2*k by omega) (show(2:Int)<=(f:Int)+1+2*k+1 by omega) (by omega) (by omega)
    omega
   have m3:((f:Int)+1+2*k)*((f:Int)+1+2*k+1)+((f:Int)+1+2*k)<=1048576:=by
    have:=Int.mul_le_mul (show(f:Int)+1+2*k<=40 by omega) (show(f:Int)+1+2*k+1<=40 by omega) (by omega) (by omega)
    omega
   have tb:=T_small hS (by rw[Int.natAbs_neg];exact hQ) m2 i1 u1 u2 v1 v2
   have A1:=ht.a1 (f+2*k)
   have A2:=ht.a2 (f+2*k)
   have B1:=ht.a1 (f+2*k+1)
   have B2:=ht.a2 (f+2*k+1)
   have ea:((f+2*k:Nat):Int)+1=(f:Int)+1+2*k:=by omega
   have eb:((f+2*k+1:Nat):Int)+1=(f:Int)+1+2*k+1:=by omega
   rw[ea] at A1 A2
   rw[eb] at B1 B2
   have hc:=cmp_step (D:=D) hS hK0 (sg_one k) (k1 _ u1) (k2 _ u2) (k3 _ v1) (k4 _ v2) (k1 _ hp1) (k2 _ hp2) (by omega) (by omega) Z0 Z1 X0 X1 Y0 Y1 e1 e2 (by omega)
    (by rw[hK];exact Int.mul_le_mul_of_nonneg_right m3 (by omega)) (by omega) A1 A2 B1 B2 (ht.n0 _) (ht.n1 _) i2 i3 (bt_nonneg f k)
   obtain⟨j1,j2⟩:=div_bd (by omega) KS hc.1 hc.2
   have es:T (k+1)*Z-sg (k+1)*(t (f+2*(k+1))*S)=T (k+1)*Z+sg k*(t (f+2*k+1+1)*S):=by
    show T (k+1)*Z-(-sg k)*(t (f+2*(k+1))*S)=_
    rw[Int.neg_mul,Int.sub_neg,show f+2*(k+1)=f+2*k+1+1 by omega]
   have J1:T (k+1)*Z-sg (k+1)*(t (f+2*(k+1))*S)<=bt f (k+1)*(K*S):=by rw[es];exact j1
   have J2:-(bt f (k+1)*(K*S))<=T (k+1)*Z-sg (k+1)*(t (f+2*(k+1))*S):=by rw[es];exact j2
   refine⟨tb,⟨J1,J2⟩,?_⟩
   have hw:=mb (k6 _ w2) (k5 _ w1) (show-S<=Z by omega) Z1
   show W (k+1)*Z-(al t f k+sg (k+1)*t (f+2*(k+1)))*S<=(ep f k+bt f (k+1)+64)*(K*S)/\-((ep f k+bt f (k+1)+64)*(K*S))<=W (k+1)*Z-(al t f k+sg (k+1)*t (f+2*(k+1)))*S
   rw[Int.sub_mul,Int.add_mul,Int.mul_assoc 64] at hw
   rw[Int.add_mul,Int.mul_assoc (sg (k+1)),Int.add_mul,Int.add_mul]
   generalize W (k+1)*Z=z1 at*
   generalize W k*Z=z2 at*
   generalize T (k+1)*Z=z3 at*
   generalize sg (k+1)*(t (f+2*(k+1))*S)=z4 at*
   generalize al t f k*S=z5 at*
   generalize ep f k*(K*S)=z6 at*
   generalize bt f (k+1)*(K*S)=z7 at*
   generalize K*S=z8 at*
   clear A1 A2 B1 B2 hc j1 j2 u1 u2 v1 v2 i2 i3 w1 w2 hp1 hp2 m2 m3 es
   omega
theorem ep_vals:ep 0 15<=1900/\ep 1 14<=1900:=by decide
theorem P_small{S X P:Int}(hS:0<S)(X0:0<=X)(X1:100*X<=79*S)(p1:79228162514264337593543950336*(P*S-X*X)<=S*S)(p2:-(S*S)<=79228162514264337593543950336*(P*S-X*X)):10*(P.natAbs:Int)<=7*S:=by
 have hXX:=cmp_xx X0 X1
 have h1:0<=X*X:=Int.mul_nonneg X0 X0
 have h2:0<=S*S:=Int.mul_nonneg (by omega) (by omega)
 have h3:10*(((P*S).natAbs:Nat):Int)<=7*(S*S):=by
  clear X0 X1
  generalize P*S=a at*
  generalize X*X=b at*
  generalize S*S=c at*
  omega
 rw[abs_mul_pos hS] at h3
 refine Int.le_of_mul_le_mul_right ?_ hS
 rw[Int.mul_assoc,Int.mul_assoc]
 exact h3
theorem docT_of{D X:Int}(hD:0<=D)(X0:0<=X)(X1:X<=1329227995784915872903807060280344576):
  DocT (1329227995784915872903807060280344576*D) D (X*D) (λi=>rT X i*D):=by
 have DD:0<=D*D:=Int.mul_nonneg hD hD
 have base:∀i:Nat,((i:Int)+1)*rT X (i+1)*1329227995784915872903807060280344576<=rT X i*X/\rT X i*X<=((i:Int)+1)*(rT X (i+1)+1)*1329227995784915872903807060280344576:=by
  intro i
  have e:rT X (i+1)=rT X i*X/2^120/((i:Int)+1):=rfl
  rw[e120] at e
  obtain⟨y,hy⟩:∃y,y=rT X i*X/1329227995784915872903807060280344576:=⟨_,rfl⟩
  rw[<-hy] at e
  have h1:=Int.mul_ediv_self_le (x:=y) (k:=(i:Int)+1) (by omega)
  have h2:=Int.lt_mul_ediv_self_add (x:=y) (k:=(i:Int)+1) (by omega)
  rw[<-e] at h1 h2
  have h3:((i:Int)+1)*(rT X (i+1)+1)=((i:Int)+1)*rT X (i+1)+((i:Int)+1):=by rw[Int.mul_add,Int.mul_one]
  rw[h3]
  generalize ((i:Int)+1)*rT X (i+1)=z at*
  clear e h3
  constructor<;>omega
 refine⟨λi=>?_,λi=>?_,λi=>?_,λi=>?_⟩
 ·have h:=Int.mul_le_mul_of_nonneg_right (base i).1 DD
  show((i:Int)+1)*(rT X (i+1)*D)*(1329227995784915872903807060280344576*D)<=rT X i*D*(X*D)
  clear base
  generalize rT X (i+1)=a at*
  generalize rT X i=b at*
  grind
 ·have h:=Int.mul_le_mul_of_nonneg_right (base i).2 DD
  show rT X i*D*(X*D)<=((i:Int)+1)*(rT X (i+1)*D+D)*(1329227995784915872903807060280344576*D)
  clear base
  generalize rT X (i+1)=a at*
  generalize rT X i=b at*
  grind
 ·exact Int.mul_nonneg (rT_bd X0 X1 i).1 hD
 ·exact Int.mul_le_mul_of_nonneg_right (rT_bd X0 X1 i).2.1 hD
theorem rT_one(X:Int):rT X 1=X:=by
 show 1329227995784915872903807060280344576*X/2^120/(((0:Nat):Int)+1)=X
 rw[e120]
 omega
theorem rT_31{X:Int}(X0:0<=X)(X1:X<=1329227995784915872903807060280344576):0<=rT X 31/\rT X 31<=1000:=by
 have base:∀i:Nat,((i:Int)+1)*rT X (i+1)<=rT X i:=by
  intro i
  have h0:=(rT_bd X0 X1 i).1
  have e:rT X (i+1)=rT X i*X/2^120/((i:Int)+1):=rfl
  rw[e120] at e
  obtain⟨y,hy⟩:∃y,y=rT X i*X/1329227995784915872903807060280344576:=⟨_,rfl⟩
  rw[<-hy] at e
  have h1:=Int.mul_ediv_self_le (x:=y) (k:=(i:Int)+1) (by omega)
  rw[<-e] at h1
  have h2:=Int.mul_le_mul_of_nonneg_left X1 h0
  generalize ((i:Int)+1)*rT X (i+1)=z at*
  generalize rT X i*X=p at*
  clear e
  omega
 refine⟨(rT_bd X0 X1 31).1,?_⟩
 have t0:rT X 0<=1329227995784915872903807060280344576:=(rT_bd X0 X1 0).2.1
 have b0:1*rT X 1<=rT X 0:=base 0
 have b1:2*rT X 2<=rT X 1:=base 1
 have b2:3*rT X 3<=rT X 2:=base 2
 have b3:4*rT X 4<=rT X 3:=base 3
 have b4:5*rT X 5<=rT X 4:=base 4
 have b5:6*rT X 6<=rT X 5:=base 5
 have b6:7*rT X 7<=rT X 6:=base 6
 have b7:8*rT X 8<=rT X 7:=base 7
 have b8:9*rT X 9<=rT X 8:=base 8
 have b9:10*rT X 10<=rT X 9:=base 9
 have b10:11*rT X 11<=rT X 10:=base 10
 have b11:12*rT X 12<=rT X 11:=base 11
 have b12:13*rT X 13<=rT X 12:=base 12
 have b13:14*rT X 14<=rT X 13:=base 13
 have b14:15*rT X 15<=rT X 14:=base 14
 have b15:16*rT X 16<=rT X 15:=base 15
 have b16:17*rT X 17<=rT X 16:=base 16
 have b17:18*rT X 18<=rT X 17:=base 17
 have b18:19*rT X 19<=rT X 18:=base 18
 have b19:20*rT X 20<=rT X 19:=base 19
 have b20:21*rT X 21<=rT X 20:=base 20
 have b21:22*rT X 22<=rT X 21:=base 21
 have b22:23*rT X 23<=rT X 22:=base 22
 have b23:24*rT X 24<=rT X 23:=base 23
 have b24:25*rT X 25<=rT X 24:=base 24
 have b25:26*rT X 26<=rT X 25:=base 25
 have b26:27*rT X 27<=rT X 26:=base 26
 have b27:28*rT X 28<=rT X 27:=base 27
 have b28:29*rT X 29<=rT X 28:=base 28
 have b29:30*rT X 30<=rT X 29:=base 29
 have b30:31*rT X 31<=rT X 30:=base 30
 clear base
 omega
theorem al_cos(X D:Int):al (λi=>rT X i*D) 0 15=(rS X 32 0-rS X 32 2)*D:=by
 simp[al,sg,rS]
 generalize rT X 0=a0,rT X 2=a2,rT X 4=a4,rT X 6=a6,rT X 8=a8,rT X 10=a10,rT X 12=a12,rT X 14=a14,rT X 16=a16,rT X 18=a18,rT X 20=a20,rT X 22=a22,rT X 24=a24,rT X 26=a26,rT X 28=a28,rT X 30=a30
 grind
theorem al_sin(X D:Int):al (λi=>rT X i*D) 1 14-rT X 31*D=(rS X 32 1-rS X 32 3)*D:=by
 simp[al,sg,rS]
 generalize rT X 1=a0,rT X 3=a2,rT X 5=a4,rT X 7=a6,rT X 9=a8,rT X 11=a10,rT X 13=a12,rT X 15=a14,rT X 17=a16,rT X 19=a18,rT X 21=a20,rT X 23=a22,rT X 25=a24,rT X 27=a26,rT X 29=a28,rT X 31=a30
 grind
theorem doc_eighth:(rS eighth120 32 0-rS eighth120 32 2)-(rS eighth120 32 1-rS eighth120 32 3)=2:=by decide+kernel
theorem arg_err{n r S D K X Y E:Int}(n1:1<=n)(r1:1<=r)(rn:r<=n)(hS:S=1329227995784915872903807060280344576*D)(hK:K=1048576*D)(hD:0<D)(hpi:piV=1043973226625944089706719114415889436*D+996*D)(hE:E=r*1043973226625944089706719114415889436)(hY1:n*Y<=E)(hY2:E<=n*Y+n)(x1:2475880078570760549798248448*(n*X-piV*r)<=r*S)(x2:-(r*S)<=2475880078570760549798248448*(n*X-piV*r)):
  X-Y*D<=513*K/\-(513*K)<=X-Y*D:=by
 have q1:n*X-piV*r<=512*(K*r)/\-(512*(K*r))<=n*X-piV*r:=by
  have e:r*S=2475880078570760549798248448*(512*(K*r)):=by rw[hS,hK];clear hY1 hY2 x1 x2 hE hpi;grind
  rw[e] at x1 x2
  generalize n*X-piV*r=a at*
  generalize K*r=b at*
  clear hE hpi hS e
  constructor<;>omega
 have hKr:K*r<=K*n:=Int.mul_le_mul_of_nonneg_left rn (by omega)
 have hDr:D*r<=D*n:=Int.mul_le_mul_of_nonneg_left rn (by omega)
 have hDr0:0<=D*r:=Int.mul_nonneg (by omega) (by omega)
 have y1:=Int.mul_le_mul_of_nonneg_right hY1 (show 0<=D by omega)
 have y2:=Int.mul_le_mul_of_nonneg_right hY2 (show 0<=D by omega)
 have epr:piV*r=E*D+996*(D*r):=by rw[hpi,hE];clear x1 x2 hY1 hY2 q1 y1 y2 hKr hDr;grind
 have eKn:K*n=1048576*(D*n):=by rw[hK,Int.mul_assoc]
 have e1:n*(X-Y*D)=n*X-n*Y*D:=by rw[Int.mul_sub,Int.mul_assoc]
 have e2:(n*Y+n)*D=n*Y*D+D*n:=by rw[Int.add_mul,Int.mul_comm n D]
 rw[e2] at y2
 have f1:n*(X-Y*D)<=n*(513*K)/\-(n*(513*K))<=n*(X-Y*D):=by
  have e3:n*(513*K)=513*(K*n):=by rw[Int.mul_left_comm,Int.mul_comm n]
  rw[e1,e3]
  rw[epr] at q1
  generalize n*X=a at*
  generalize n*Y*D=b at*
  generalize E*D=c at*
  generalize D*r=d at*
  generalize D*n=f at*
  generalize K*r=g at*
  generalize K*n=h at*
  clear x1 x2 hpi hE hY1 hY2 e1 e2 epr e3 hS
  constructor<;>omega
 constructor
 ·exact Int.le_of_mul_le_mul_left f1.1 (by omega)
 ·refine Int.le_of_mul_le_mul_left (a:=n) ?_ (by omega)
  rw[Int.mul_neg];exact f1.2
theorem near_doc{S D r n c s X':Int}(hSD:S=1329227995784915872903807060280344576*D)(hD:0<D)(hpi:piV=1043973226625944089706719114415889436*D+996*D)(r1:1<=r)(rn:r<=n)(h:NearVal S n r c s)(hX':X'=eighth120*r/n):
  (c-(rS X' 32 0-rS X' 32 2)*D<=2000*(1048576*D)/\-(2000*(1048576*D))<=c-(rS X' 32 0-rS X' 32 2)*D)/\
  (s-(rS X' 32 1-rS X' 32 3)*D<=2000*(1048576*D)/\-(2000*(1048576*D))<=s-(rS X' 32 1-rS X' 32 3)*D):=by
 obtain⟨X,W,hX,x1,x2,hc,hs,q1,q2⟩:=h.out
 obtain⟨K,hK⟩:∃K,K=1048576*D:=⟨_,rfl⟩
 have hS:0<S:=by omega
 have hSK:S=1267650600228229401496703205376*K:=by omega
 have ee:eighth120=1043973226625944089706719114415889436:=by decide
 have hE0:0<=eighth120*r:=Int.mul_nonneg (by decide) (by omega)
 have hE1:eighth120*r<=eighth120*n:=Int.mul_le_mul_of_nonneg_left rn (by decide)
 have hX0:0<=X':=by rw[hX'];exact Int.ediv_nonneg hE0 (by omega)
 have hX1:X'<=eighth120:=by
  rw[hX']
  refine Int.le_trans (Int.ediv_le_ediv (by omega) hE1) ?_
  rw[Int.mul_ediv_cancel _ (by omega)];exact Int.le_refl _
 have hX2:X'<=1329227995784915872903807060280344576:=Int.le_trans hX1 (by decide)
 have d1:=Int.mul_ediv_self_le (x:=eighth120*r) (k:=n) (by omega)
 have d2:=Int.lt_mul_ediv_self_add (x:=eighth120*r) (k:=n) (by omega)
 rw[<-hX'] at d1 d2
 obtain⟨e1,e2⟩:=arg_err (E:=eighth120*r) (by omega) r1 rn hSD hK hD hpi (by rw[Int.mul_comm,ee]) d1 (by omega) x1 x2
 have nX:0<=n*X:=by
  have e:r*S=1329227995784915872903807060280344576*(r*D):=by rw[hSD,Int.mul_left_comm]
  have e2:piV*r=1043973226625944089706719114415890432*(r*D):=by
   rw[hpi,<-Int.add_mul,Int.mul_assoc,Int.mul_comm D];rfl
  have hrD:0<=r*D:=Int.mul_nonneg (by omega) (by omega)
  rw[e,e2] at x2
  generalize n*X=a at*
  generalize r*D=b at*
  clear e e2 x1 hpi hSD hSK hX
  omega
 have X0:0<=X:=by
  apply Decidable.byContradiction
  intro hneg
  have:n*X<0:=Int.mul_neg_of_pos_of_neg (by omega) (by omega)
  omega
 have Y0:0<=X'*D:=Int.mul_nonneg hX0 (by omega)
 have Y1:100*(X'*D)<=79*S:=by
  have:=Int.mul_le_mul_of_nonneg_right hX1 (show 0<=D by omega)
  rw[hSD]
  rw[ee] at this
  generalize X'*D=a at*
  clear d1 d2 x1 x2 hpi hE0 hE1 hX2
  omega
 have hd:=docT_of (D:=D) (by omega) hX0 hX2
 rw[<-hSD] at hd
 obtain⟨P,T,W',p1,p2,hA,hw⟩:=hc.out
 obtain⟨P2,T2,W2,r1',r2',hA2,hw2⟩:=hs.out
 have v15:=ep_vals
 have hKS:0<K*S:=Int.mul_pos (by omega) hS
 constructor
 ·have ez:S*S-rT X' 0*D*S=0:=by
    show S*S-1329227995784915872903807060280344576*D*S=0
    rw[<-hSD];omega
  have b00:bt 0 0*(K*S)=0:=by show 513*((0:Nat):Int)*(K*S)=0;omega
  have k1:=cmp_all (Z:=S) (f:=0) (R:=15) hS hSK hK (by omega) (by omega) p1 p2 (P_small hS (by omega) (by omega) p1 p2) hA (by omega) (by omega) X0 (by omega) Y0 Y1 e1 e2 hd (by rw[b00,ez];omega) (by rw[b00,ez];omega) 15 (by omega)
  obtain⟨_,_,g1,g2⟩:=k1
  rw[hw,al_cos] at g1 g2
  have h1:=Int.mul_le_mul_of_nonneg_right v15.1 (show 0<=K*S by omega)
  rw[<-hK]
  constructor
  ·refine Int.le_of_mul_le_mul_right (a:=S) ?_ hS
   rw[Int.sub_mul,Int.mul_assoc 2000]
   generalize K*S=a at*
   clear x1 x2 q1 q2 hd d1 d2 e1 e2 p1 p2 r1' r2' hpi
   omega
  ·refine Int.le_of_mul_le_mul_right (a:=S) ?_ hS
   rw[Int.sub_mul,Int.neg_mul,Int.mul_assoc 2000]
   generalize K*S=a at*
   clear x1 x2 q1 q2 hd d1 d2 e1 e2 p1 p2 r1' r2' hpi
   omega
 ·have ez:S*X-rT X' 1*D*S=(X-X'*D)*S:=by
    rw[rT_one,Int.sub_mul,Int.mul_comm S X]
  have b10:bt 1 0*(K*S)=513*K*S:=by
   show 513*((1:Nat):Int)*(K*S)=513*K*S
   rw[Int.mul_assoc 513 K];rfl
  have f1:=Int.mul_le_mul_of_nonneg_right e1 (show 0<=S by omega)
  have f2:=Int.mul_le_mul_of_nonneg_right e2 (show 0<=S by omega)
  rw[Int.neg_mul] at f2
  have k1:=cmp_all (Z:=X) (f:=1) (R:=14) hS hSK hK (by omega) (by omega) r1' r2' (P_small hS (by omega) (by omega) r1' r2') hA2 (by omega) (by omega) X0 (by omega) Y0 Y1 e1 e2 hd (by rw[b10,ez];exact f1) (by rw[b10,ez];exact f2) 14 (by omega)
  obtain⟨_,_,g1,g2⟩:=k1
  rw[hw2] at g1 g2
  have h1:=Int.mul_le_mul_of_nonneg_right v15.2 (show 0<=K*S by omega)
  have hal:=al_sin X' D
  obtain⟨t0,t1⟩:=rT_31 hX0 hX2
  have t2:rT X' 31*D<=1000*D:=Int.mul_le_mul_of_nonneg_right t1 (by omega)
  have t3:0<=rT X' 31*D:=Int.mul_nonneg t0 (by omega)
  have q:s*S-W*X<=64*(K*S)/\-(64*(K*S))<=s*S-W*X:=by
   have e:S*S=1267650600228229401496703205376*(K*S):=by
    have h:S*S=1267650600228229401496703205376*K*S:=congrArg (·*S) hSK
    rw[h,Int.mul_assoc]
   rw[Int.mul_assoc,e] at q1 q2
   generalize s*S-W*X=a at*
   generalize K*S=b at*
   clear x1 x2 hd d1 d2 e1 e2 p1 p2 r1' r2' hpi e
   constructor<;>omega
  have hTS:rT X' 31*D*S<=K*S:=Int.mul_le_mul_of_nonneg_right (by omega) (by omega)
  have hTS0:0<=rT X' 31*D*S:=Int.mul_nonneg t3 (by omega)
  have hal2:(rS X' 32 1-rS X' 32 3)*D*S=al (λi=>rT X' i*D) 1 14*S-rT X' 31*D*S:=by rw[<-hal,Int.sub_mul]
  rw[<-hK]
  constructor
  ·refine Int.le_of_mul_le_mul_right (a:=S) ?_ hS
   rw[Int.sub_mul,Int.mul_assoc 2000,hal2]
   generalize K*S=a at*
   clear x1 x2 q1 q2 hd d1 d2 e1 e2 p1 p2 r1' r2' hpi f1 f2 hal hal2 ez b10 hX Y1
   omega
  ·refine Int.le_of_mul_le_mul_right (a:=S) ?_ hS
   rw[Int.sub_mul,Int.neg_mul,Int.mul_assoc 2000,hal2]
   generalize K*S=a at*
   clear x1 x2 q1 q2 hd d1 d2 e1 e2 p1 p2 r1' r2' hpi f1 f2 hal hal2 ez b10 hX Y1
   omega
theorem rT_te{X:Int}{x:Rat}(X0:0<=X)(X1:X<=1329227995784915872903807060280344576)(x0:0<=x)(x1:x<=4/5)(h1:(X:Rat)<=1329227995784915872903807060280344576*x)(h2:1329227995784915872903807060280344576*x<=(X:Rat)+1):
  ∀i,-4<=(rT X i:Rat)-1329227995784915872903807060280344576*te x i/\(rT X i:Rat)-1329227995784915872903807060280344576*te x i<=0
 |0=>by
   show-4<=((1329227995784915872903807060280344576:Int):Rat)-1329227995784915872903807060280344576*1/\((1329227995784915872903807060280344576:Int):Rat)-1329227995784915872903807060280344576*1<=0
   decide+kernel
 |1=>by
   have e:te x 1=x:=by
    have:=te_succ x 0
    have e0:te x 0=1:=rfl
    have e1:((0:Nat):Rat)=0:=rfl
    rw[e0,e1] at this
    grind
   rw[rT_one,e]
   constructor<;>grind
 |i+2=>by
   obtain⟨d1,d2⟩:=rT_te X0 X1 x0 x1 h1 h2 (i+1)
   have e:=te_succ x (i+1)
   have hb:=rT_bd X0 X1 (i+1)
   have hr:rT X (i+1+1)=rT X (i+1)*X/2^120/(((i+1:Nat):Int)+1):=rfl
   rw[e120] at hr
   obtain⟨y,hy⟩:∃y,y=rT X (i+1)*X/1329227995784915872903807060280344576:=⟨_,rfl⟩
   rw[<-hy] at hr
   have g1:=Int.mul_ediv_self_le (x:=y) (k:=((i+1:Nat):Int)+1) (by omega)
   have g2:=Int.lt_mul_ediv_self_add (x:=y) (k:=((i+1:Nat):Int)+1) (by omega)
   rw[<-hr] at g1 g2
   obtain⟨t,ht⟩:∃t,t=rT X (i+1):=⟨_,rfl⟩
   obtain⟨t',ht'⟩:∃t',t'=rT X (i+1+1):=⟨_,rfl⟩
   rw[<-ht] at d1 d2 hy hb
   rw[<-ht'] at g1 g2
   show-4<=(rT X (i+1+1):Rat)-_*te x (i+1+1)/\(rT X (i+1+1):Rat)-_*te x (i+1+1)<=0
   rw[<-ht']
   clear hr ht ht'
   have k1:1329227995784915872903807060280344576*((((i+1:Nat):Rat)+1)*(t':Rat))<=(t:Rat)*(X:Rat):=by
    have:1329227995784915872903807060280344576*((((i+1:Nat):Int)+1)*t')<=t*X:=by
     generalize (((i+1:Nat):Int)+1)*t'=z at*
     generalize t*X=p at*
     omega
    have:=Rat.intCast_le_intCast.2 this
    rw[Rat.intCast_mul,Rat.intCast_mul,Rat.intCast_mul,Rat.intCast_add] at this
    exact this
   have k2:(t:Rat)*(X:Rat)<=1329227995784915872903807060280344576*((((i+1:Nat):Rat)+1)*(t':Rat))+1329227995784915872903807060280344576*(((i+1:Nat):Rat)+1):=by
    have:t*X<=1329227995784915872903807060280344576*((((i+1:Nat):Int)+1)*t')+1329227995784915872903807060280344576*(((i+1:Nat):Int)+1):=by
     generalize (((i+1:Nat):Int)+1)*t'=z at*
     generalize t*X=p at*
     omega
    have:=Rat.intCast_le_intCast.2 this
    rw[Rat.intCast_mul,Rat.intCast_add,Rat.intCast_mul,Rat.intCast_mul,Rat.intCast_mul,Rat.intCast_add] at this
    exact this
   have k3:(0:Rat)<=(t:Rat):=by have:=Rat.intCast_le_intCast.2 hb.1;exact this
   have k4:(t:Rat)<=1329227995784915872903807060280344576:=by have:=Rat.intCast_le_intCast.2 hb.2.1;exact this
   have a2:(2:Rat)<=((i+1:Nat):Rat)+1:=by
    have:(0:Rat)<=(i:Rat):=Rat.natCast_nonneg
    rw[Rat.natCast_add]
    have:((1:Nat):Rat)=1:=rfl
    grind
   generalize ((i+1:Nat):Rat)+1=a at*
   generalize (t:Rat)=u at*
   generalize (t':Rat)=v at*
   generalize (X:Rat)=z at*
   generalize te x (i+1)=w at*
   generalize te x (i+1+1)=w' at*
   clear g1 g2 hy hb y X0 X1
   have m1:=Rat.mul_nonneg k3 (show 0<=1329227995784915872903807060280344576*x-z by grind)
   have m2:=Rat.mul_nonneg k3 (show 0<=z+1-1329227995784915872903807060280344576*x by grind)
   have m3:=Rat.mul_nonneg x0 (show 0<=1329227995784915872903807060280344576*w-u by grind)
   have m4:=Rat.mul_nonneg x0 (show 0<=4-(1329227995784915872903807060280344576*w-u) by grind)
   constructor
   ·apply Decidable.byContradiction
    intro hc
    have hp:=Rat.mul_pos (show 0<a by grind) (show 0< -4-(v-1329227995784915872903807060280344576*w') by grind)
    clear m1 m3 k1 hc h1 h2
    grind
   ·apply Decidable.byContradiction
    intro hc
    have hp:=Rat.mul_pos (show 0<a by grind) (show 0<v-1329227995784915872903807060280344576*w' by grind)
    clear m2 m4
    grind
theorem sc_mod:∀k,sc k=if k%4=0 then(1,0) else if k%4=1 then(0,1) else if k%4=2 then(-1,0) else(0,-1)
 |0=>rfl
 |k+1=>by
   have ih:=sc_mod k
   show(-(sc k).2,(sc k).1)=_
   rw[ih]
   rcases(show k%4=0\/k%4=1\/k%4=2\/k%4=3 by omega) with h|h|h|h
   ·have:(k+1)%4=1:=by omega
    simp[h,this]
   ·have:(k+1)%4=2:=by omega
    simp[h,this]
   ·have:(k+1)%4=3:=by omega
    simp[h,this]
   ·have:(k+1)%4=0:=by omega
    simp[h,this]
theorem rS_sc(X:Int):∀k,sm (λi=>(sc i).1*(rT X i:Rat)) k=(rS X (k+1) 0:Rat)-(rS X (k+1) 2:Rat)/\sm (λi=>(sc i).2*(rT X i:Rat)) k=(rS X (k+1) 1:Rat)-(rS X (k+1) 3:Rat):=by
 have step:∀k,(sc k).1*(rT X k:Rat)=((rS X (k+1) 0:Rat)-(rS X (k+1) 2:Rat))-((rS X k 0:Rat)-(rS X k 2:Rat))/\(sc k).2*(rT X k:Rat)=((rS X (k+1) 1:Rat)-(rS X (k+1) 3:Rat))-((rS X k 1:Rat)-(rS X k 3:Rat)):=by
  intro k
  have e:∀j,rS X (k+1) j=if k%4=j then rS X k j+rT X k else rS X k j:=λj=>rfl
  rw[e,e,e,e,sc_mod k]
  rcases(show k%4=0\/k%4=1\/k%4=2\/k%4=3 by omega) with h|h|h|h<;>simp[h,Rat.intCast_add]<;>constructor<;>grind
 intro k
 induction k with
 |zero=>
   have h:=step 0
   have z:∀j,(rS X 0 j:Rat)=0:=λj=>rfl
   rw[z,z,z,z] at h
   constructor
   ·show(sc 0).1*(rT X 0:Rat)=_
    grind
   ·show(sc 0).2*(rT X 0:Rat)=_
    grind
 |succ k ih=>
   have h:=step (k+1)
   constructor
   ·show sm (λi=>(sc i).1*(rT X i:Rat)) k+(sc (k+1)).1*(rT X (k+1):Rat)=_
    rw[ih.1];grind
   ·show sm (λi=>(sc i).2*(rT X i:Rat)) k+(sc (k+1)).2*(rT X (k+1):Rat)=_
    rw[ih.2];grind
theorem short_te:sm (te (4/5)) 90-sm (te (4/5)) 31<=eps/\sm (te (4/5)) 90<=3:=by decide+kernel
theorem four32:sm (λ_=>4) 31=128:=by decide+kernel
theorem co_add{x y:Rat}(hx1:-(63/10)<=x)(hx2:x<=63/10)(hy1:-(63/10)<=y)(hy2:y<=63/10):-eps<=co x*co y-si x*si y-co (x+y)/\co x*co y-si x*si y-co (x+y)<=eps:=by
 have h:=add_cos hx1 hx2 hy1 hy2 90
 have t:=tau_small
 constructor<;>grind
theorem si_add{x y:Rat}(hx1:-(63/10)<=x)(hx2:x<=63/10)(hy1:-(63/10)<=y)(hy2:y<=63/10):-eps<=si x*co y+co x*si y-si (x+y)/\si x*co y+co x*si y-si (x+y)<=eps:=by
 have h:=add_sin hx1 hx2 hy1 hy2 90
 have t:=tau_small
 constructor<;>grind
theorem unit_le(f:Nat->Rat)(F:Nat->Rat)(s:Nat->Rat)(hs:∀m,-1<=s m/\s m<=1)(h:∀k,-F k<=f k/\f k<=F k)(k:Nat):-F k<=s k*f k/\s k*f k<=F k:=by
 have:=mbR (hs k).1 (hs k).2 (h k).1 (h k).2
 rw[Rat.one_mul] at this
 exact this
theorem doc_exact{X:Int}{x:Rat}(X0:0<=X)(X1:X<=1329227995784915872903807060280344576)(x0:0<=x)(x1:x<=4/5)(h1:(X:Rat)<=1329227995784915872903807060280344576*x)(h2:1329227995784915872903807060280344576*x<=(X:Rat)+1):
  (-2048<=((rS X 32 0-rS X 32 2:Int):Rat)-1329227995784915872903807060280344576*co x/\((rS X 32 0-rS X 32 2:Int):Rat)-1329227995784915872903807060280344576*co x<=2048)/\
  (-2048<=((rS X 32 1-rS X 32 3:Int):Rat)-1329227995784915872903807060280344576*si x/\((rS X 32 1-rS X 32 3:Int):Rat)-1329227995784915872903807060280344576*si x<=2048):=by
 have hte:=rT_te X0 X1 x0 x1 h1 h2
 have hb:∀k:Nat,-4<=(rT X k:Rat)-1329227995784915872903807060280344576*te x k/\(rT X k:Rat)-1329227995784915872903807060280344576*te x k<=4:=λk=>⟨(hte k).1,by have:=(hte k).2;grind⟩
 obtain⟨s1,s2⟩:=rS_sc X 31
 have c1:(((rS X 32 0-rS X 32 2:Int)):Rat)=(rS X 32 0:Rat)-(rS X 32 2:Rat):=Rat.intCast_sub _ _
 have c2:(((rS X 32 1-rS X 32 3:Int)):Rat)=(rS X 32 1:Rat)-(rS X 32 3:Rat):=Rat.intCast_sub _ _
 rw[c1,c2,<-s1,<-s2]
 have t0:=short_te.1
 have k1:=sm_le _ (λ_=>4) (unit_le _ (λ_=>4) (λm=>(sc m).1) (λm=>(sc_le m).1) hb) 31
 have k2:=sm_le _ (λ_=>4) (unit_le _ (λ_=>4) (λm=>(sc m).2) (λm=>(sc_le m).2) hb) 31
 have hx:∀k,-te (4/5) k<=te x k/\te x k<=te (4/5) k:=te_le (by grind) x1
 have l1:=sm_tail _ _ (unit_le _ _ (λm=>(sc m).1) (λm=>(sc_le m).1) hx) 31 59
 have l2:=sm_tail _ _ (unit_le _ _ (λm=>(sc m).2) (λm=>(sc_le m).2) hx) 31 59
 have e1:sm (λk=>(sc k).1*((rT X k:Rat)-1329227995784915872903807060280344576*te x k)) 31=sm (λi=>(sc i).1*(rT X i:Rat)) 31-1329227995784915872903807060280344576*cN 31 x:=by
  unfold cN
  rw[<-sm_mull,<-sm_sub]
  exact sm_congr _ _ 31 (λj _=>by grind)
 have e2:sm (λk=>(sc k).2*((rT X k:Rat)-1329227995784915872903807060280344576*te x k)) 31=sm (λi=>(sc i).2*(rT X i:Rat)) 31-1329227995784915872903807060280344576*sN 31 x:=by
  unfold sN
  rw[<-sm_mull,<-sm_sub]
  exact sm_congr _ _ 31 (λj _=>by grind)
 rw[e1,four32] at k1
 rw[e2,four32] at k2
 have m1:-(sm (te (4/5)) 90-sm (te (4/5)) 31)<=co x-cN 31 x/\co x-cN 31 x<=sm (te (4/5)) 90-sm (te (4/5)) 31:=l1
 have m2:-(sm (te (4/5)) 90-sm (te (4/5)) 31)<=si x-sN 31 x/\si x-sN 31 x<=sm (te (4/5)) 90-sm (te (4/5)) 31:=l2
 have he:1329227995784915872903807060280344576*eps=1024:=by decide+kernel
 clear l1 l2 e1 e2 s1 s2 c1 c2 hte hb hx h1 h2 X0 X1
 generalize sm (λi=>(sc i).1*(rT X i:Rat)) 31=u at*
 generalize sm (λi=>(sc i).2*(rT X i:Rat)) 31=v at*
 generalize sm (te (4/5)) 90-sm (te (4/5)) 31=d at*
 generalize co x=p at*
 generalize si x=q at*
 generalize cN 31 x=p' at*
 generalize sN 31 x=q' at*
 refine⟨⟨?_,?_⟩,?_,?_⟩<;>grind
theorem eps_pos:0<eps/\eps<=1/1000000:=by decide+kernel
theorem piE_bd:0<=piE/\piE<=7854/10000:=by decide+kernel
theorem rot_err{a b c s:Rat}(a1:-eps<=a)(a2:a<=eps)(b1:-eps<=b)(b2:b<=eps)(c1:-2<=c)(c2:c<=2)(s1:-2<=s)(s2:s<=2):
  (-(4*eps)<=c*a-s*b/\c*a-s*b<=4*eps)/\(-(4*eps)<=s*a+c*b/\s*a+c*b<=4*eps):=by
 have p1:=mbR c1 c2 a1 a2
 have p2:=mbR s1 s2 b1 b2
 have p3:=mbR s1 s2 a1 a2
 have p4:=mbR c1 c2 b1 b2
 refine⟨⟨?_,?_⟩,?_,?_⟩<;>grind
theorem quarter_turns:∀h:Nat,h<=4->(-(5*h*eps)<=co (2*h*piE)-(sc h).1/\co (2*h*piE)-(sc h).1<=5*h*eps)/\(-(5*h*eps)<=si (2*h*piE)-(sc h).2/\si (2*h*piE)-(sc h).2<=5*h*eps)
 |0,_=>by decide+kernel
 |h+1,hh=>by
   obtain⟨⟨a1,a2⟩,a3,a4⟩:=quarter_turns h (by omega)
   obtain⟨⟨b1,b2⟩,b3,b4⟩:=quarter_cs
   obtain⟨e0,e1⟩:=eps_pos
   obtain⟨p0,p1⟩:=piE_bd
   have hr:(h:Rat)<=3:=by
    have:((h:Nat):Rat)<=((3:Nat):Rat):=Rat.natCast_le_natCast.2 (by omega)
    exact this
   have h0:(0:Rat)<=(h:Rat):=Rat.natCast_nonneg
   have hs:=sc_le h
   have q:=Rat.mul_nonneg h0 p0
   have q2:=Rat.mul_nonneg (show(0:Rat)<=3-h by grind) p0
   have c:=co_add (x:=2*h*piE) (y:=2*piE) (by grind) (by grind) (by grind) (by grind)
   have d:=si_add (x:=2*h*piE) (y:=2*piE) (by grind) (by grind) (by grind) (by grind)
   have e:2*((h+1:Nat):Rat)*piE=2*h*piE+2*piE:=by
    rw[Rat.natCast_add]
    have:((1:Nat):Rat)=1:=rfl
    grind
   have eh:((h+1:Nat):Rat)=h+1:=by rw[Rat.natCast_add];rfl
   rw[e,eh]
   have f1:(sc (h+1)).1=-(sc h).2:=rfl
   have f2:(sc (h+1)).2=(sc h).1:=rfl
   rw[f1,f2]
   have q3:=Rat.mul_nonneg h0 (Rat.le_of_lt e0)
   have q4:=Rat.mul_nonneg (show(0:Rat)<=3-h by grind) (Rat.le_of_lt e0)
   generalize co (2*h*piE)=u at*
   generalize si (2*h*piE)=v at*
   have r:=rot_err (a:=co (2*piE)) (b:=si (2*piE)-1) (c:=u) (s:=v) b1 b2 (by grind) (by grind) (by grind) (by grind) (by grind) (by grind)
   generalize co (2*piE)=a at*
   generalize si (2*piE)=b at*
   generalize co (2*h*piE+2*piE)=C at*
   generalize si (2*h*piE+2*piE)=S at*
   generalize (sc h).1=s1 at*
   generalize (sc h).2=s2 at*
   clear e eh q q2 p0 p1
   refine⟨⟨?_,?_⟩,?_,?_⟩<;>grind
theorem cs_bd{x:Rat}(x0:-(4/5)<=x)(x1:x<=4/5):(-3<=co x/\co x<=3)/\(-3<=si x/\si x<=3):=by
 have hx:=te_le x0 x1
 have t:=short_te.2
 have l1:-sm (te (4/5)) 90<=co x/\co x<=sm (te (4/5)) 90:=sm_le _ _ (unit_le _ _ (λm=>(sc m).1) (λm=>(sc_le m).1) hx) 90
 have l2:-sm (te (4/5)) 90<=si x/\si x<=sm (te (4/5)) 90:=sm_le _ _ (unit_le _ _ (λm=>(sc m).2) (λm=>(sc_le m).2) hx) 90
 refine⟨⟨?_,?_⟩,?_,?_⟩<;>grind
theorem rot_rest{x:Rat}(x0:-(4/5)<=x)(x1:x<=4/5)(h:Nat)(hh:h<=4)(hb:2*h*piE+x<=63/10):
  (-(128*eps)<=co (2*h*piE+x)-((sc h).1*co x-(sc h).2*si x)/\co (2*h*piE+x)-((sc h).1*co x-(sc h).2*si x)<=128*eps)/\
  (-(128*eps)<=si (2*h*piE+x)-((sc h).2*co x+(sc h).1*si x)/\si (2*h*piE+x)-((sc h).2*co x+(sc h).1*si x)<=128*eps):=by
 obtain⟨⟨a1,a2⟩,a3,a4⟩:=quarter_turns h hh
 obtain⟨e0,e1⟩:=eps_pos
 obtain⟨p0,p1⟩:=piE_bd
 obtain⟨⟨c1,c2⟩,c3,c4⟩:=cs_bd x0 x1
 have hr:(h:Rat)<=4:=by
  have:((h:Nat):Rat)<=((4:Nat):Rat):=Rat.natCast_le_natCast.2 hh
  exact this
 have h0:(0:Rat)<=(h:Rat):=Rat.natCast_nonneg
 have q:=Rat.mul_nonneg h0 p0
 have q2:=Rat.mul_nonneg (show(0:Rat)<=4-h by grind) p0
 have q3:=Rat.mul_nonneg h0 (Rat.le_of_lt e0)
 have q4:=Rat.mul_nonneg (show(0:Rat)<=4-h by grind) (Rat.le_of_lt e0)
 have c:=co_add (x:=2*h*piE) (y:=x) (by grind) (by grind) (by grind) (by grind)
 have d:=si_add (x:=2*h*piE) (y:=x) (by grind) (by grind) (by grind) (by grind)
 have m1:=mbR (A:=20*eps) (B:=3) (show-(20*eps)<=co (2*h*piE)-(sc h).1 by grind) (by grind) c1 c2
 have m2:=mbR (A:=20*eps) (B:=3) (show-(20*eps)<=si (2*h*piE)-(sc h).2 by grind) (by grind) c3 c4
 have m3:=mbR (A:=20*eps) (B:=3) (show-(20*eps)<=si (2*h*piE)-(sc h).2 by grind) (by grind) c1 c2
 have m4:=mbR (A:=20*eps) (B:=3) (show-(20*eps)<=co (2*h*piE)-(sc h).1 by grind) (by grind) c3 c4
 clear a1 a2 a3 a4 c1 c2 c3 c4 q q2 q3 q4 hr h0 hb p0 p1 x0 x1 e1
 generalize co (2*h*piE+x)=C at*
 generalize si (2*h*piE+x)=S at*
 generalize co (2*h*piE)=u at*
 generalize si (2*h*piE)=v at*
 generalize co x=y at*
 generalize si x=z at*
 generalize (sc h).1=s1 at*
 generalize (sc h).2=s2 at*
 refine⟨⟨?_,?_⟩,?_,?_⟩<;>grind
theorem co_neg(x:Rat):co (-x)=co x:=cos_neg 90 x
theorem si_neg(x:Rat):si (-x)=-si x:=sin_neg 90 x
structure Acc(S:Int)(a:Nat×Nat)(e:Rat):Prop where
 out:∃v:Int,Ok a v/\-(2003*(S:Rat))<=1267650600228229401496703205376*((v:Rat)-S*e)/\1267650600228229401496703205376*((v:Rat)-S*e)<=2003*(S:Rat)
theorem Acc.neg{S:Int}{a:Nat×Nat}{e:Rat}(h:Acc S a e):Acc S (negP a) (-e):=by
 obtain⟨v,h1,h2,h3⟩:=h.out
 refine⟨-v,h1.neg,?_,?_⟩<;>rw[Rat.intCast_neg]<;>grind
theorem Ok.plain'{a:Nat×Nat}{v:Int}(h:Ok a v):Ok (plainF a) v:=by
 unfold plainF
 split
 ·rename_i h0
  have hr:=rnd_rel v
  rw[h.neat,h0] at hr
  have e53:(2:Int)^53=9007199254740992:=by decide
  rw[e53] at hr
  have hv:v=0:=by omega
  rw[hv];exact ok_zero
 ·exact h
theorem Acc.plain{S:Int}{a:Nat×Nat}{e:Rat}(h:Acc S a e):Acc S (plainF a) e:=by
 obtain⟨v,h1,h2,h3⟩:=h.out
 exact⟨v,h1.plain',h2,h3⟩
theorem rS_zero_c':rS 0 32 0-rS 0 32 2=1329227995784915872903807060280344576:=by decide+kernel
theorem rS_zero_s':rS 0 32 1-rS 0 32 3=0:=by decide+kernel
theorem near_law'{S D r n X:Int}(hS:S=((2^U:Nat):Int))(hSD:S=1329227995784915872903807060280344576*D)(hD:0<D)(r0:0<=r)(rn:r<=n)(n1:1<=n)(n2:n<=1099511627776)(hX:X=eighth120*r/n):
  ∃vc vs,Ok (nC n r) vc/\Ok (nS n r) vs/\(vc-(rS X 32 0-rS X 32 2)*D<=2001*(1048576*D)/\-(2001*(1048576*D))<=vc-(rS X 32 0-rS X 32 2)*D)/\(vs-(rS X 32 1-rS X 32 3)*D<=2001*(1048576*D)/\-(2001*(1048576*D))<=vs-(rS X 32 1-rS X 32 3)*D):=by
 by_cases hr:r=0
 ·have h:nearF r n=some ((oneW,0),(0,0)):=by unfold nearF;rw[if_pos hr]
  have e1:nC n r=(oneW,0):=by unfold nC;rw[h];rfl
  have e2:nS n r=(0,0):=by unfold nS;rw[h];rfl
  have eX:X=0:=by rw[hX,hr,Int.mul_zero,Int.zero_ediv]
  have eC:(rS X 32 0-rS X 32 2)*D=S:=by rw[eX,rS_zero_c',hSD]
  have eS:(rS X 32 1-rS X 32 3)*D=0:=by rw[eX,rS_zero_s',Int.zero_mul]
  rw[e1,e2,eC,eS]
  exact⟨S,0,ok_one hS,ok_zero,by omega,by omega⟩
 ·obtain⟨c,s,vc,vs,h,hc,hs,hv,b1,b2⟩:=near_ok (S:=S) hS (show 1<=r by omega) rn (by omega)
  have e1:nC n r=c:=by unfold nC;rw[h];rfl
  have e2:nS n r=if r=n then c else s:=by unfold nS;rw[h];rfl
  have hpi:piV=1043973226625944089706719114415889436*D+996*D:=by
   have h1:=iv_q1 hS
   have h2:=iv_q2 hS
   unfold piV
   rw[hSD] at h1 h2
   generalize iv 4605249457297304856=a at*
   generalize iv 4359948597267291143=b at*
   clear hSD
   omega
  obtain⟨k1,k2⟩:=near_doc (X':=X) hSD hD hpi (show 1<=r by omega) rn hv hX
  rw[e1,e2]
  by_cases hrn:r=n
  ·rw[if_pos hrn]
   have eX:X=eighth120:=by rw[hX,hrn,Int.mul_ediv_cancel _ (by omega)]
   have hd:=doc_eighth
   rw[<-eX] at hd
   have e3:(rS X 32 0-rS X 32 2)*D=(rS X 32 1-rS X 32 3)*D+2*D:=by
    rw[<-Int.add_mul];congr 1;omega
   exact⟨vc,vc,hc,hc,by omega,by omega⟩
  ·rw[if_neg hrn]
   exact⟨vc,vs,hc,hs,by omega,by omega⟩
theorem cast_bd{v d D:Int}{e:Rat}(hD:0<D)(h1:v-d*D<=2001*(1048576*D))(h2:-(2001*(1048576*D))<=v-d*D)(k1:-2048<=(d:Rat)-1329227995784915872903807060280344576*e)(k2:(d:Rat)-1329227995784915872903807060280344576*e<=2048)(S:Int)(hS:S=1329227995784915872903807060280344576*D):
  -(2002*(S:Rat))<=1267650600228229401496703205376*((v:Rat)-S*e)/\1267650600228229401496703205376*((v:Rat)-S*e)<=2002*(S:Rat):=by
 have eS:(S:Rat)=1329227995784915872903807060280344576*(D:Rat):=by rw[hS,Rat.intCast_mul];rfl
 have q1:(v:Rat)-(d:Rat)*(D:Rat)<=2001*(1048576*(D:Rat)):=by
  have:=Rat.intCast_le_intCast.2 h1
  rw[Rat.intCast_sub,Rat.intCast_mul,Rat.intCast_mul,Rat.intCast_mul] at this
  exact this
 have q2:-(2001*(1048576*(D:Rat)))<=(v:Rat)-(d:Rat)*(D:Rat):=by
  have:=Rat.intCast_le_intCast.2 h2
  rw[Rat.intCast_sub,Rat.intCast_neg,Rat.intCast_mul,Rat.intCast_mul,Rat.intCast_mul] at this
  exact this
 have q0:(0:Rat)<=(D:Rat):=by
  have:=Rat.intCast_le_intCast.2 (show(0:Int)<=D by omega)
  exact this
 rw[eS]
 have m1:=Rat.mul_nonneg q0 (show 0<=2048+((d:Rat)-1329227995784915872903807060280344576*e) by grind)
 have m2:=Rat.mul_nonneg q0 (show 0<=2048-((d:Rat)-1329227995784915872903807060280344576*e) by grind)
 generalize (v:Rat)=v' at*
 generalize (d:Rat)=d' at*
 generalize (D:Rat)=D' at*
 clear h1 h2 hS eS hD k1 k2
 constructor<;>grind
theorem H_pi:(1329227995784915872903807060280344576:Rat)*piE=((1043973226625944089706719114415889436:Int):Rat):=by decide+kernel
theorem near_acc{S D r n:Int}(hS:S=((2^U:Nat):Int))(hSD:S=1329227995784915872903807060280344576*D)(hD:0<D)(r0:0<=r)(rn:r<=n)(n1:1<=n)(n2:n<=1099511627776){x:Rat}(hx:(n:Rat)*x=piE*(r:Rat)):
  (0<=x/\x<=4/5)/\
  (∃v:Int,Ok (nC n r) v/\-(2002*(S:Rat))<=1267650600228229401496703205376*((v:Rat)-S*co x)/\1267650600228229401496703205376*((v:Rat)-S*co x)<=2002*(S:Rat))/\
  (∃v:Int,Ok (nS n r) v/\-(2002*(S:Rat))<=1267650600228229401496703205376*((v:Rat)-S*si x)/\1267650600228229401496703205376*((v:Rat)-S*si x)<=2002*(S:Rat)):=by
 obtain⟨X,hX⟩:∃X,X=eighth120*r/n:=⟨_,rfl⟩
 obtain⟨vc,vs,o1,o2,b1,b2⟩:=near_law' hS hSD hD r0 rn n1 n2 hX
 have ee:eighth120=1043973226625944089706719114415889436:=by decide
 rw[ee] at hX
 have hE0:0<=1043973226625944089706719114415889436*r:=Int.mul_nonneg (by decide) r0
 have hE1:1043973226625944089706719114415889436*r<=1043973226625944089706719114415889436*n:=by omega
 have X0:0<=X:=by rw[hX];exact Int.ediv_nonneg hE0 (by omega)
 have X1:X<=1329227995784915872903807060280344576:=by
  rw[hX]
  refine Int.le_trans (Int.ediv_le_ediv (by omega) hE1) ?_
  rw[Int.mul_ediv_cancel _ (by omega)];decide
 have d1:=Int.mul_ediv_self_le (x:=1043973226625944089706719114415889436*r) (k:=n) (by omega)
 have d2:=Int.lt_mul_ediv_self_add (x:=1043973226625944089706719114415889436*r) (k:=n) (by omega)
 rw[<-hX] at d1 d2
 have n0:(0:Rat)<(n:Rat):=by
  have:((1:Int):Rat)<=(n:Rat):=Rat.intCast_le_intCast.2 n1
  have e:((1:Int):Rat)=1:=rfl
  grind
 have rr0:(0:Rat)<=(r:Rat):=Rat.intCast_le_intCast.2 r0
 have rrn:(r:Rat)<=(n:Rat):=Rat.intCast_le_intCast.2 rn
 obtain⟨p0,p1⟩:=piE_bd
 have hHx:1329227995784915872903807060280344576*((n:Rat)*x)=((1043973226625944089706719114415889436*r:Int):Rat):=by
  rw[hx,<-Rat.mul_assoc,H_pi,Rat.intCast_mul]
 have h1:(X:Rat)<=1329227995784915872903807060280344576*x:=by
  have:=Rat.intCast_le_intCast.2 d1
  rw[<-hHx,Rat.intCast_mul] at this
  apply Decidable.byContradiction
  intro hc
  have:=Rat.mul_pos n0 (show 0<(X:Rat)-1329227995784915872903807060280344576*x by grind)
  grind
 have h2:1329227995784915872903807060280344576*x<=(X:Rat)+1:=by
  have:=Rat.intCast_le_intCast.2 (show 1043973226625944089706719114415889436*r<=n*X+n by omega)
  rw[<-hHx,Rat.intCast_add,Rat.intCast_mul] at this
  apply Decidable.byContradiction
  intro hc
  have:=Rat.mul_pos n0 (show 0<1329227995784915872903807060280344576*x-((X:Rat)+1) by grind)
  grind
 have x0:0<=x:=by
  apply Decidable.byContradiction
  intro hc
  have h3:=Rat.mul_pos n0 (show 0< -x by grind)
  have h4:=Rat.mul_nonneg p0 rr0
  grind
 have x1:x<=4/5:=by
  apply Decidable.byContradiction
  intro hc
  have h3:=Rat.mul_pos n0 (show 0<x-4/5 by grind)
  have h4:=Rat.mul_nonneg p0 (show 0<=(n:Rat)-r by grind)
  have h5:=Rat.mul_nonneg (show 0<=4/5-piE by grind) (Rat.le_of_lt n0)
  grind
 obtain⟨⟨a1,a2⟩,a3,a4⟩:=doc_exact X0 X1 x0 x1 h1 h2
 exact⟨⟨x0,x1⟩,⟨vc,o1,cast_bd hD b1.1 b1.2 a1 a2 S hSD⟩,vs,o2,cast_bd hD b2.1 b2.2 a3 a4 S hSD⟩
def ang(k n:Int):Rat:=8*piE*((k%n:Int):Rat)/(n:Rat)
theorem Acc.of{S v:Int}{a:Nat×Nat}{e e':Rat}(hS:0<=(S:Rat))(ok:Ok a v)(h1:-(2002*(S:Rat))<=1267650600228229401496703205376*((v:Rat)-S*e))(h2:1267650600228229401496703205376*((v:Rat)-S*e)<=2002*(S:Rat))(g1:-(128*eps)<=e'-e)(g2:e'-e<=128*eps):Acc S a e':=by
 have he:1267650600228229401496703205376*eps=1/1024:=by decide+kernel
 have m1:=Rat.mul_nonneg hS (show 0<=128*eps+(e'-e) by grind)
 have m2:=Rat.mul_nonneg hS (show 0<=128*eps-(e'-e) by grind)
 have m3:1267650600228229401496703205376*((S:Rat)*(128*eps))=(S:Rat)/8:=by
  have:1267650600228229401496703205376*((S:Rat)*(128*eps))=(S:Rat)*128*(1267650600228229401496703205376*eps):=by grind
  rw[this,he];grind
 have m1':0<=(S:Rat)*(128*eps)+((S:Rat)*e'-(S:Rat)*e):=by
  have:(S:Rat)*(128*eps)+((S:Rat)*e'-(S:Rat)*e)=(S:Rat)*(128*eps+(e'-e)):=by grind
  rw[this];exact m1
 have m2':0<=(S:Rat)*(128*eps)-((S:Rat)*e'-(S:Rat)*e):=by
  have:(S:Rat)*(128*eps)-((S:Rat)*e'-(S:Rat)*e)=(S:Rat)*(128*eps-(e'-e)):=by grind
  rw[this];exact m2
 have hv:Ok a v:=ok
 clear he g1 g2 m1 m2 ok
 refine⟨v,hv,?_,?_⟩
 ·clear hv
  generalize (S:Rat)*(128*eps)=z at*
  generalize (S:Rat)*e'=y at*
  generalize (S:Rat)*e=w at*
  grind
 ·clear hv
  generalize (S:Rat)*(128*eps)=z at*
  generalize (S:Rat)*e'=y at*
  generalize (S:Rat)*e=w at*
  grind
theorem ang_even{k n:Int}{h:Nat}{x:Rat}(n1:1<=n)(ho:octO k n=2*(h:Int))(hx:(n:Rat)*x=piE*(octR k n:Rat)):ang k n=2*h*piE+x:=by
 have hR:octR k n=if octO k n%2=1 then(octO k n+1)*n-8*(k%n) else 8*(k%n)-octO k n*n:=rfl
 rw[if_neg (by omega),ho] at hR
 have hr:((octR k n:Int):Rat)=8*((k%n:Int):Rat)-2*(h:Rat)*(n:Rat):=by
  rw[hR,Rat.intCast_sub,Rat.intCast_mul,Rat.intCast_mul,Rat.intCast_mul];rfl
 have n0:(0:Rat)<(n:Rat):=by
  have:((1:Int):Rat)<=(n:Rat):=Rat.intCast_le_intCast.2 n1
  have e:((1:Int):Rat)=1:=rfl
  grind
 unfold ang
 rw[hr] at hx
 generalize ((k%n:Int):Rat)=q at*
 generalize (n:Rat)=m at*
 have hm:m≠0:=by grind
 clear hR ho hr n1 n0
 grind
theorem ang_odd{k n:Int}{h:Nat}{x:Rat}(n1:1<=n)(ho:octO k n+1=2*(h:Int))(hx:(n:Rat)*x=piE*(octR k n:Rat)):ang k n=2*h*piE+-x:=by
 have hR:octR k n=if octO k n%2=1 then(octO k n+1)*n-8*(k%n) else 8*(k%n)-octO k n*n:=rfl
 rw[if_pos (by omega),ho] at hR
 have hr:((octR k n:Int):Rat)=2*(h:Rat)*(n:Rat)-8*((k%n:Int):Rat):=by
  rw[hR,Rat.intCast_sub,Rat.intCast_mul,Rat.intCast_mul,Rat.intCast_mul];rfl
 have n0:(0:Rat)<(n:Rat):=by
  have:((1:Int):Rat)<=(n:Rat):=Rat.intCast_le_intCast.2 n1
  have e:((1:Int):Rat)=1:=rfl
  grind
 unfold ang
 rw[hr] at hx
 generalize ((k%n:Int):Rat)=q at*
 generalize (n:Rat)=m at*
 have hm:m≠0:=by grind
 clear hR ho hr n1 n0
 grind
theorem ang_bd(k n:Int)(n1:1<=n):0<=ang k n/\ang k n<=63/10:=by
 have n0:(0:Rat)<(n:Rat):=by
  have:((1:Int):Rat)<=(n:Rat):=Rat.intCast_le_intCast.2 n1
  have e:((1:Int):Rat)=1:=rfl
  grind
 obtain⟨p0,p1⟩:=piE_bd
 have q0:(0:Rat)<=((k%n:Int):Rat):=Rat.intCast_le_intCast.2 (Int.emod_nonneg k (by omega))
 have q1:((k%n:Int):Rat)<=(n:Rat):=Rat.intCast_le_intCast.2 (Int.le_of_lt (Int.emod_lt_of_pos k (by omega)))
 have e:(n:Rat)*ang k n=8*piE*((k%n:Int):Rat):=by
  unfold ang
  have hm:(n:Rat)≠0:=by grind
  grind
 generalize ang k n=x at*
 generalize ((k%n:Int):Rat)=q at*
 generalize (n:Rat)=m at*
 constructor
 ·apply Decidable.byContradiction
  intro hc
  have h3:=Rat.mul_pos n0 (show 0< -x by grind)
  have h4:=Rat.mul_nonneg p0 q0
  grind
 ·apply Decidable.byContradiction
  intro hc
  have h3:=Rat.mul_pos n0 (show 0<x-63/10 by grind)
  have h4:=Rat.mul_nonneg p0 (show 0<=m-q by grind)
  have h5:=Rat.mul_nonneg (show 0<=7854/10000-piE by grind) (Rat.le_of_lt n0)
  grind
theorem ex_acc{S D:Int}(hS:S=((2^U:Nat):Int))(hSD:S=1329227995784915872903807060280344576*D)(hD:0<D)(k n:Int)(n1:1<=n)(n2:n<=1099511627776):
  Acc S (exC k n) (co (ang k n))/\Acc S (exS k n) (si (ang k n)):=by
 obtain⟨r1,r2⟩:=octR_bd k n n1
 obtain⟨o1,o2,_,_⟩:=octO_spec k n (by omega)
 have n0:(0:Rat)<(n:Rat):=by
  have:((1:Int):Rat)<=(n:Rat):=Rat.intCast_le_intCast.2 n1
  have e:((1:Int):Rat)=1:=rfl
  grind
 obtain⟨x,hx⟩:∃x:Rat,(n:Rat)*x=piE*(octR k n:Rat):=⟨piE*(octR k n:Rat)/n,by
  have hm:(n:Rat)≠0:=by grind
  grind⟩
 obtain⟨⟨x0,x1⟩,⟨vc,oc,c1,c2⟩,vs,os,s1,s2⟩:=near_acc hS hSD hD r1 r2 n1 n2 hx
 have S0:(0:Rat)<=(S:Rat):=by
  have:=Rat.intCast_le_intCast.2 (show(0:Int)<=S by omega)
  exact this
 have hab:=ang_bd k n n1
 have kc:∀e',-(128*eps)<=e'-co x->e'-co x<=128*eps->Acc S (nC n (octR k n)) e':=λe' g1 g2=>Acc.of S0 oc c1 c2 g1 g2
 have ks:∀e',-(128*eps)<=e'-si x->e'-si x<=128*eps->Acc S (nS n (octR k n)) e':=λe' g1 g2=>Acc.of S0 os s1 s2 g1 g2
 have nc:∀e',-(128*eps)<=e'+co x->e'+co x<=128*eps->Acc S (negP (nC n (octR k n))) e':=λe' g1 g2=>by
  have:=(kc (-e') (by grind) (by grind)).neg
  rwa [show- -e'=e' by grind] at this
 have ns:∀e',-(128*eps)<=e'+si x->e'+si x<=128*eps->Acc S (negP (nS n (octR k n))) e':=λe' g1 g2=>by
  have:=(ks (-e') (by grind) (by grind)).neg
  rwa [show- -e'=e' by grind] at this
 have ev:∀h:Nat,octO k n=2*(h:Int)->h<=4->(-(128*eps)<=co (ang k n)-((sc h).1*co x-(sc h).2*si x)/\co (ang k n)-((sc h).1*co x-(sc h).2*si x)<=128*eps)/\(-(128*eps)<=si (ang k n)-((sc h).2*co x+(sc h).1*si x)/\si (ang k n)-((sc h).2*co x+(sc h).1*si x)<=128*eps):=by
  intro h ho hh
  have e:=ang_even n1 ho hx
  rw[e] at hab|-
  exact rot_rest (by grind) x1 h hh hab.2
 have od:∀h:Nat,octO k n+1=2*(h:Int)->h<=4->(-(128*eps)<=co (ang k n)-((sc h).1*co x+(sc h).2*si x)/\co (ang k n)-((sc h).1*co x+(sc h).2*si x)<=128*eps)/\(-(128*eps)<=si (ang k n)-((sc h).2*co x-(sc h).1*si x)/\si (ang k n)-((sc h).2*co x-(sc h).1*si x)<=128*eps):=by
  intro h ho hh
  have e:=ang_odd n1 ho hx
  rw[e] at hab|-
  have:=rot_rest (x:=-x) (by grind) (by grind) h hh hab.2
  rw[co_neg,si_neg] at this
  grind
 have w0:sc 0=(1,0):=rfl
 have w1:sc 1=(0,1):=by decide+kernel
 have w2:sc 2=(-1,0):=by decide+kernel
 have w3:sc 3=(0,-1):=by decide+kernel
 have w4:sc 4=(1,0):=by decide+kernel
 unfold exC exS
 clear c1 c2 s1 s2 hx hab x0 x1 r1 r2 n0
 generalize co (ang k n)=C at*
 generalize si (ang k n)=Z at*
 generalize co x=y at*
 generalize si x=z at*
 generalize nC n (octR k n)=a at*
 generalize nS n (octR k n)=b at*
 obtain⟨o,ho⟩:∃o,o=octO k n:=⟨_,rfl⟩
 rw[<-ho] at o1 o2 ev od|-
 rcases(show o=0\/o=1\/o=2\/o=3\/o=4\/o=5\/o=6\/o=7 by omega) with rfl|rfl|rfl|rfl|rfl|rfl|rfl|rfl
 ·have h:=ev 0 rfl (by omega)
  rw[w0] at h
  exact⟨(kc _ (by grind) (by grind)).plain,(ks _ (by grind) (by grind)).plain⟩
 ·have h:=od 1 rfl (by omega)
  rw[w1] at h
  exact⟨(ks _ (by grind) (by grind)).plain,(kc _ (by grind) (by grind)).plain⟩
 ·have h:=ev 1 rfl (by omega)
  rw[w1] at h
  exact⟨(ns _ (by grind) (by grind)).plain,(kc _ (by grind) (by grind)).plain⟩
 ·have h:=od 2 rfl (by omega)
  rw[w2] at h
  exact⟨(nc _ (by grind) (by grind)).plain,(ks _ (by grind) (by grind)).plain⟩
 ·have h:=ev 2 rfl (by omega)
  rw[w2] at h
  exact⟨(nc _ (by grind) (by grind)).plain,(ns _ (by grind) (by grind)).plain⟩
 ·have h:=od 3 rfl (by omega)
  rw[w3] at h
  exact⟨(ns _ (by grind) (by grind)).plain,(nc _ (by grind) (by grind)).plain⟩
 ·have h:=ev 3 rfl (by omega)
  rw[w3] at h
  exact⟨(ks _ (by grind) (by grind)).plain,(nc _ (by grind) (by grind)).plain⟩
 ·have h:=od 4 rfl (by omega)
  rw[w4] at h
  exact⟨(kc _ (by grind) (by grind)).plain,(ns _ (by grind) (by grind)).plain⟩
end Go.Proofs.YtmgfaeineklccaaGreat.T
namespace Go.Proofs.YtmgfaeineklccaaGreat.T
open Go.RowKit Fl
end Go.Proofs.YtmgfaeineklccaaGreat.T
