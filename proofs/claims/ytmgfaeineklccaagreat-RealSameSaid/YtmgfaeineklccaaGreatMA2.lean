/- Operations that are off by a little, over whatever numbers; a product with a root, a sum of products: plain. -/
import Derived.Test.YtmgfaeineklccaaGreatMA1
set_option linter.unusedSimpArgs false
set_option linter.unusedVariables false
set_option maxHeartbeats 8000000
namespace Go.Proofs.YtmgfaeineklccaaGreat
namespace CG
structure FL(T:Type) where
 R:Rg T
 fin:T->Prop
 val:T->CC
 u:RR
 l:RR
 M:RR
 τ:RR
 u0:0<u
 u1:9007199254740992*u<=1
 τ0:0<τ
 τ1:τ<=u
 lt:1000*(l*l)<=u*u*τ
 l0:0<=l*l
 M1:1000*τ<=M
 zero:fin R.zero/\val R.zero=0
 add:∀{a b},fin a->fin b->nsq (val a+val b)<=M->fin (R.add a b)/\nsq (val (R.add a b)-(val a+val b))<=u*u*nsq (val a+val b)
 sub:∀{a b},fin a->fin b->nsq (val a-val b)<=M->fin (R.sub a b)/\nsq (val (R.sub a b)-(val a-val b))<=u*u*nsq (val a-val b)
 mul:∀{a b},fin a->fin b->nsq (val a)*nsq (val b)<=M->fin (R.mul a b)/\nsq (val (R.mul a b)-val a*val b)<=14*(u*u*(nsq (val a)*nsq (val b)))+20*(l*l)
 over:∀{a} {n:Nat},fin a->1<=n->n<=65536->nsq (val a)<=M->fin (R.over a n)/\nsq (CC.of (n:RR)*val (R.over a n)-val a)<=8*(u*u*nsq (val a))+2*((n:RR)*(n:RR)*(l*l))
 root:∀(k:Int) {n:Nat},1<=n->n<=65536->fin (R.root k n)/\nsq (val (R.root k n)-rtE k n)<=4*(u*u)
theorem sq_mono{a b A:RR}(h0:0<=a)(h1:a<=b)(hA:0<=A):a*a*A<=b*b*A:=by
 have h2:=RR.mul_nn (x:=b-a) (y:=b+a) (by grind) (by grind)
 have h3:=RR.mul_nn h2 hA
 grind
theorem mul_le_r{a b c:RR}(hc:0<=c)(h:a<=b):a*c<=b*c:=by
 have:=mul_le_l hc h
 grind
theorem RR.nat_nn(n:Nat):(0:RR)<=(n:RR):=RR.of_le.2 (by show((0:Nat):Rat)<=(n:Rat);exact Rat.natCast_le_natCast.2 (Nat.zero_le n))
theorem RR.nat_le{m n:Nat}(h:m<=n):(m:RR)<=(n:RR):=RR.of_le.2 (Rat.natCast_le_natCast.2 h)
theorem RR.nat_mul(m n:Nat):((m*n:Nat):RR)=(m:RR)*(n:RR):=by
 show RR.of ((m*n:Nat):Rat)=RR.of ((m:Rat)*(n:Rat));rw[Rat.natCast_mul]
theorem RR.nat_add(m n:Nat):((m+n:Nat):RR)=(m:RR)+(n:RR):=by
 show RR.of ((m+n:Nat):Rat)=RR.of ((m:Rat)+(n:Rat));rw[Rat.natCast_add]
theorem RR.nat_one:((1:Nat):RR)=1:=rfl
theorem RR.nat_zero:((0:Nat):RR)=0:=rfl
theorem RR.nat_pos{n:Nat}(h:1<=n):(0:RR)<(n:RR):=by
 have:=RR.nat_le h
 rw[RR.nat_one] at this
 grind
theorem cs_sum(m:Nat)(z:Nat->CC):nsq (sumF m z)<=(m:RR)*sumF m (λk=>nsq (z k)):=by
 induction m with
 |zero=>rw[sumF_nil,sumF_nil,nsq_zero];grind
 |succ m ih=>
   rw[sumF_succ,sumF_succ,RR.nat_succ]
   by_cases hm:m=0
   ·subst hm
    rw[sumF_nil,sumF_nil]
    have:(0:CC)+z 0=z 0:=by grind
    rw[this,RR.nat_zero]
    grind
   ·have hp:=RR.nat_pos (n:=m) (by omega)
    have h:=nsq_add (α:=(m:RR)) (β:=1) (by grind) (by grind) (sumF m z) (z m)
    have h2:(m:RR)*nsq (sumF m z+z m)<=(m:RR)*(((m:RR)+1)*(sumF m (λk=>nsq (z k))+nsq (z m))):=by
     have h3:=mul_le_l (c:=(m:RR)+1) (by grind) ih
     grind
    exact mul_cancel_le hp h2
theorem grow{n:Nat}{a b:Nat->CC}{S e A f:RR}(he:0<e)(hS:0<=S)(hf:0<=f)(ha:nS n a+f<=S*A)(hb:nS n b<=S*(e*e*A)):nS n (λk=>a k+b k)+f<=S*((1+e)*(1+e)*A):=by
 have h1:e*nS n (λk=>a k+b k)<=(1+e)*(e*nS n a+nS n b):=by
  unfold nS
  rw[<-sumF_left,<-sumF_left,<-sumF_add,<-sumF_left]
  exact sumR_le λk _=>by have:=nsq_add (α:=1) (β:=e) (by grind) (by grind) (a k) (b k);grind
 have h2:=mul_le_l (c:=(1+e)*e) (by have:=RR.mul_nn (x:=1+e) (y:=e) (by grind) (by grind);grind) (show nS n a<=S*A-f by grind)
 have h3:=mul_le_l (c:=1+e) (by grind) hb
 have h4:=RR.mul_nn (x:=e*e) (y:=f) (RR.mul_nn (by grind) (by grind)) hf
 refine mul_cancel_le he ?_
 grind
section
variable {T : Type} (F : FL T)
theorem FL.uu:0<F.u*F.u/\F.u*F.u<=F.u:=by
 have h0:=F.u0
 have h1:=F.u1
 have:=RR.mul_lt h0 h0
 have:=RR.mul_nn (x:=F.u) (y:=1-F.u) (by grind) (by grind)
 exact⟨by grind,by grind⟩
theorem nn_sq{a:RR}:0<=a*a:=RR.sq_nonneg a
theorem FL.tw{a:T}(ha:F.fin a)(k:Int){n:Nat}(n1:1<=n)(n2:n<=65536){Q:RR}(hQ:nsq (F.val a)<=Q)(hτ:F.τ<=Q)(hM:2*Q<=F.M):
  F.fin (F.R.mul a (F.R.root k n))/\nsq (F.val (F.R.mul a (F.R.root k n))-F.val a*rtE k n)<=(7*F.u)*(7*F.u)*Q:=by
 obtain⟨fr,er⟩:=F.root k n1 n2
 have hw:=rtE_nsq n n1 k
 have u0:=F.u0
 have u1:=F.u1
 have u2:=F.uu
 have τ0:=F.τ0
 have lt:=F.lt
 have hQ0:0<=Q:=by grind
 have hW:nsq (F.val (F.R.root k n))<=(1+2*F.u)*(1+2*F.u):=by
  have h:=nsq_tri (a:=rtE k n) (b:=F.val (F.R.root k n)-rtE k n) (α:=1) (β:=2*F.u) (A:=1) (by grind) (by grind) (by rw[hw];grind) (by grind)
  have e:rtE k n+(F.val (F.R.root k n)-rtE k n)=F.val (F.R.root k n):=by grind
  rw[e] at h
  grind
 have hW2:100*nsq (F.val (F.R.root k n))<=101:=by grind
 have hP:100*(nsq (F.val a)*nsq (F.val (F.R.root k n)))<=101*Q:=by
  have h1:=mul_le_r (c:=nsq (F.val (F.R.root k n))) (nsq_nonneg _) hQ
  have h2:=mul_le_l hQ0 hW2
  grind
 obtain⟨fm,em⟩:=F.mul ha fr (by grind)
 refine⟨fm,?_⟩
 have k1:nsq (F.val (F.R.mul a (F.R.root k n))-F.val a*F.val (F.R.root k n))<=(4*F.u)*(4*F.u)*Q:=by
  have h1:=mul_le_l (c:=F.u*F.u) (by grind) hP
  have h2:=mul_le_l (c:=F.u*F.u) (by grind) hτ
  have h3:=RR.mul_nn (x:=F.u*F.u) (y:=Q) (by grind) hQ0
  grind
 have k2:nsq (F.val a*(F.val (F.R.root k n)-rtE k n))<=(2*F.u)*(2*F.u)*Q:=by
  rw[nsq_mul]
  have h1:=mul_le_r (c:=nsq (F.val (F.R.root k n)-rtE k n)) (nsq_nonneg _) hQ
  have h2:=mul_le_l hQ0 er
  grind
 have h:=nsq_tri (by grind) (by grind) k1 k2
 have e:F.val (F.R.mul a (F.R.root k n))-F.val a*F.val (F.R.root k n)+F.val a*(F.val (F.R.root k n)-rtE k n)=F.val (F.R.mul a (F.R.root k n))-F.val a*rtE k n:=by grind
 rw[e] at h
 have:=sq_mono (a:=4*F.u+2*F.u) (b:=7*F.u) (A:=Q) (by grind) (by grind) hQ0
 grind
def Good(n:Nat)(K:Tr T)(g R:RR):Prop:=∀s:Int,s=1\/s=-1->∀(X:Nat->T) (θ:RR),(∀i,i<n->F.fin (X i))->F.τ<=θ->
 (nS n (λi=>F.val (X i))+(n:RR)*θ)*R<=F.M->
 (∀i,i<n->F.fin (K s X i))/\nS n (λi=>F.val (K s X i)-dft rtE n s (λi=>F.val (X i)) i)<=(n:RR)*(g*g*(nS n (λi=>F.val (X i))+(n:RR)*θ))
theorem sumR_len{f:Nat->RR}(h:∀k,0<=f k){m n:Nat}(hm:m<=n):sumF m f<=sumF n f:=by
 obtain⟨d,rfl⟩:∃d,n=m+d:=⟨n-m,by omega⟩
 rw[sumF_app]
 have:=sumR_nonneg (n:=d) (f:=λk=>f (m+k)) λk _=>h _
 grind
theorem FL.leaf{n:Nat}(n1:1<=n)(n2:n<=32768){σ:RR}(hσ:0<σ)(hn:(n:RR)<=σ*σ):
  Good F n (directF F.R n) (σ*((9*(n:RR)+1)*F.u)) (4*(n:RR)):=by
 intro s hs X θ hX hθ hM
 have u0:=F.u0
 have u1:=F.u1
 have τ0:=F.τ0
 have hn1:=RR.nat_le n1
 have hn2:=RR.nat_le n2
 rw[RR.nat_one] at hn1
 have en2:((32768:Nat):RR)=32768:=rfl
 rw[en2] at hn2
 obtain⟨A,hA⟩:∃A,nS n (λi=>F.val (X i))+(n:RR)*θ=A:=⟨_,rfl⟩
 rw[hA] at hM|-
 have hS:=nS_nonneg n (λi=>F.val (X i))
 have hnθ:=RR.mul_nn (x:=(n:RR)-1) (y:=θ) (by grind) (by grind)
 have hA0:0<A:=by grind
 have hτA:F.τ<=A:=by grind
 have hBA:=RR.mul_nn (x:=(n:RR)-1) (y:=A) (by grind) (by grind)
 obtain⟨B,hB⟩:∃B,(n:RR)*A=B:=⟨_,rfl⟩
 have hx:∀k,k<n->nsq (F.val (X k))<=B:=λk hk=>by
  have:=nS_term (f:=λi=>F.val (X i)) hk
  grind
 have hun:(9*(n:RR)+9)*F.u<=1:=by
  have:=RR.mul_nn (x:=1000000-(9*(n:RR)+9)) (y:=F.u) (by grind) (by grind)
  grind
 have row:∀j,F.fin (directF F.R n s X j)/\nsq (F.val (directF F.R n s X j)-dft rtE n s (λi=>F.val (X i)) j)<=((9*(n:RR)+1)*F.u)*((9*(n:RR)+1)*F.u)*B:=λj=>by
  have hz:∀k,rtE (unitI s*((j*k%n:Nat):Int)) n=rtE (s*((j:Int)*(k:Nat))) n:=λk=>by
   rw[unit_one hs,(rts_E n).red n1 (Nat.dvd_refl n) s (j*k%n) (j*k) (Nat.mod_mod _ _),Int.natCast_mul]
  have key:∀m,m<=n->F.fin (dotF F.R n s X j m)/\nsq (F.val (dotF F.R n s X j m)-sumF m λk=>F.val (X k)*rtE (s*((j:Int)*(k:Nat))) n)<=((9*(m:RR)+1)*F.u)*((9*(m:RR)+1)*F.u)*B:=by
   intro m
   induction m with
   |zero=>
     intro _
     refine⟨F.zero.1,?_⟩
     show nsq (F.val F.R.zero-0)<=_
     rw[F.zero.2]
     have e:(0:CC)-0=0:=by grind
     rw[e,nsq_zero]
     exact RR.mul_nn nn_sq (by grind)
   |succ m ih=>
     intro hm
     obtain⟨f1,e1⟩:=ih (by omega)
     have hm1:=RR.nat_le (show m+1<=n by omega)
     have hm0:=RR.nat_nn m
     rw[RR.nat_succ] at hm1
     have hmu:(9*(m:RR)+9)*F.u<=1:=by
      have:=RR.mul_nn (x:=(n:RR)-(m:RR)) (y:=F.u) (by grind) (by grind)
      grind
     obtain⟨f2,e2⟩:=F.tw (hX m (by omega)) (unitI s*((j*m%n:Nat):Int)) n1 (by omega) (hx m (by omega)) (by grind) (by grind)
     rw[hz m] at e2
     have e3:nsq (sumF (m+1) λk=>F.val (X k)*rtE (s*((j:Int)*(k:Nat))) n)<=1*1*B:=by
      have h1:=cs_sum (m+1) λk=>F.val (X k)*rtE (s*((j:Int)*(k:Nat))) n
      have h2:sumF (m+1) (λk=>nsq (F.val (X k)*rtE (s*((j:Int)*(k:Nat))) n))<=nS n λi=>F.val (X i):=by
       have e:sumF (m+1) (λk=>nsq (F.val (X k)*rtE (s*((j:Int)*(k:Nat))) n))=sumF (m+1) (λk=>nsq (F.val (X k))):=sumF_congr λk _=>by rw[nsq_mul,rtE_nsq n n1];grind
       rw[e]
       exact sumR_len (f:=λk=>nsq (F.val (X k))) (λk=>nsq_nonneg _) hm
      have h3:=mul_le_l (c:=((m+1:Nat):RR)) (RR.nat_nn _) h2
      have h4:=mul_le_r (c:=nS n λi=>F.val (X i)) hS hm1
      rw[RR.nat_succ] at*
      have h5:=mul_le_l (c:=(n:RR)) (by grind) (show nS n (λi=>F.val (X i))<=A by grind)
      grind
     have hmu0:=RR.mul_nn hm0 (show 0<=F.u by grind)
     have e4:=nsq_tri (α:=(9*(m:RR)+1)*F.u) (β:=7*F.u) (by grind) (by grind) e1 e2
     have e5:=nsq_tri (α:=1) (β:=(9*(m:RR)+1)*F.u+7*F.u) (by grind) (by grind) e3 e4
     have es:(sumF (m+1) λk=>F.val (X k)*rtE (s*((j:Int)*(k:Nat))) n)=(sumF m λk=>F.val (X k)*rtE (s*((j:Int)*(k:Nat))) n)+F.val (X m)*rtE (s*((j:Int)*(m:Nat))) n:=rfl
     have e6:(sumF (m+1) λk=>F.val (X k)*rtE (s*((j:Int)*(k:Nat))) n)+(F.val (dotF F.R n s X j m)-(sumF m λk=>F.val (X k)*rtE (s*((j:Int)*(k:Nat))) n)+(F.val (F.R.mul (X m) (F.R.root (unitI s*((j*m%n:Nat):Int)) n))-F.val (X m)*rtE (s*((j:Int)*(m:Nat))) n))=F.val (dotF F.R n s X j m)+F.val (F.R.mul (X m) (F.R.root (unitI s*((j*m%n:Nat):Int)) n)):=by rw[es];grind
     rw[e6] at e5
     have e7:=sq_mono (a:=1+((9*(m:RR)+1)*F.u+7*F.u)) (b:=2) (A:=B) (by grind) (by grind) (by grind)
     obtain⟨f3,e8⟩:=F.add f1 f2 (by grind)
     refine⟨f3,?_⟩
     have e9:nsq (F.val (F.R.add (dotF F.R n s X j m) (F.R.mul (X m) (F.R.root (unitI s*((j*m%n:Nat):Int)) n)))-(F.val (dotF F.R n s X j m)+F.val (F.R.mul (X m) (F.R.root (unitI s*((j*m%n:Nat):Int)) n))))<=(2*F.u)*(2*F.u)*B:=by
      have:=mul_le_l (c:=F.u*F.u) (by have:=F.uu;grind) (show _<=2*2*B from Std.IsPreorder.le_trans _ _ _ e5 e7)
      grind
     have e10:=nsq_tri (α:=(9*(m:RR)+1)*F.u+7*F.u) (β:=2*F.u) (by grind) (by grind) e4 e9
     have e11:F.val (dotF F.R n s X j m)-(sumF m λk=>F.val (X k)*rtE (s*((j:Int)*(k:Nat))) n)+(F.val (F.R.mul (X m) (F.R.root (unitI s*((j*m%n:Nat):Int)) n))-F.val (X m)*rtE (s*((j:Int)*(m:Nat))) n)+(F.val (F.R.add (dotF F.R n s X j m) (F.R.mul (X m) (F.R.root (unitI s*((j*m%n:Nat):Int)) n)))-(F.val (dotF F.R n s X j m)+F.val (F.R.mul (X m) (F.R.root (unitI s*((j*m%n:Nat):Int)) n))))=F.val (dotF F.R n s X j (m+1))-sumF (m+1) λk=>F.val (X k)*rtE (s*((j:Int)*(k:Nat))) n:=by
      have:dotF F.R n s X j (m+1)=F.R.add (dotF F.R n s X j m) (F.R.mul (X m) (F.R.root (unitI s*((j*m%n:Nat):Int)) n)):=rfl
      rw[this,es]
      grind
     rw[e11] at e10
     rw[RR.nat_succ]
     have e12:(9*(m:RR)+1)*F.u+7*F.u+2*F.u=(9*((m:RR)+1)+1)*F.u:=by grind
     rw[e12] at e10
     exact e10
  exact key n (Nat.le_refl _)
 refine⟨λi _=>(row i).1,?_⟩
 have h1:nS n (λi=>F.val (directF F.R n s X i)-dft rtE n s (λi=>F.val (X i)) i)<=sumF n λ_=>((9*(n:RR)+1)*F.u)*((9*(n:RR)+1)*F.u)*B:=sumR_le λk _=>(row k).2
 rw[sumR_const,<-hB] at h1
 have h2:0<=((9*(n:RR)+1)*F.u)*((9*(n:RR)+1)*F.u)*A:=RR.mul_nn nn_sq (by grind)
 have h3:=mul_le_r h2 hn
 have h4:=mul_le_l (c:=(n:RR)) (by grind) h3
 generalize (9*(n:RR)+1)*F.u=v at*
 grind
end
end CG
end Go.Proofs.YtmgfaeineklccaaGreat
namespace Go.Proofs.YtmgfaeineklccaaGreat
namespace CG
def RgE:Rg CC:=⟨0,λa b=>a+b,λa b=>a-b,λa b=>a*b,λa n=>a*CC.of (RR.of ((n:Rat)⁻¹)),λk n=>rtE k n.toNat⟩
theorem inv_nat{n:Nat}(n1:1<=n):CC.of (RR.of (((n:Nat):Int):Rat)⁻¹)*CC.of (n:RR)=1:=by
 rw[<-of_mul]
 have h:RR.of (((n:Nat):Int):Rat)⁻¹*(n:RR)=1:=by
  show RR.of ((((n:Nat):Int):Rat)⁻¹*(n:Rat))=RR.of ((1:Nat):Rat)
  congr 1
  rw[Rat.intCast_natCast]
  have hn:(0:Rat)<(n:Rat):=Rat.natCast_pos.2 n1
  exact Rat.inv_mul_cancel _ (by grind)
 rw[h]
 rfl
theorem homE(N:Nat):Hom RgE N rtE (λx:CC=>x) where
 rts:=rts_E N
 zero:=rfl
 add a b:=rfl
 sub a b:=rfl
 mul a b:=rfl
 over a n n1 _:=by
  show a*CC.of (RR.of (((n:Nat):Int):Rat)⁻¹)*_=a
  rw[sumC_one]
  have:=inv_nat n1
  have e:a*CC.of (RR.of (((n:Nat):Int):Rat)⁻¹)*CC.of (n:RR)=a*(CC.of (RR.of (((n:Nat):Int):Rat)⁻¹)*CC.of (n:RR)):=by grind
  rw[e,this]
  grind
 inv n n1 _:=⟨CC.of (RR.of (((n:Nat):Int):Rat)⁻¹),by rw[sumC_one];exact inv_nat n1⟩
 root k n n1 _:=rfl
theorem nS_grid(r c:Nat)(f:Nat->CC):nS (r*c) f=sumF c λb=>nS r λi=>f (b+i*c):=sumF_grid r c λk=>nsq (f k)
theorem nS_rows(r c:Nat)(f:Nat->CC):nS (r*c) f=sumF r λa=>nS c λi=>f (a*c+i*1):=by
 rw[nS_grid]
 unfold nS
 rw[sumF_comm]
 refine sumF_congr λa _=>sumF_congr λi _=>?_
 show nsq (f (i+a*c))=nsq (f (a*c+i*1))
 rw[show i+a*c=a*c+i*1 by omega]
theorem nS_out(r c:Nat)(f:Nat->CC):nS (r*c) f=sumF r λa=>nS c λd=>f (a+d*r):=by
 rw[Nat.mul_comm]
 exact nS_grid c r f
section
variable {T : Type} (F : FL T)
theorem FL.radix{r c:Nat}(r1:1<=r)(c1:1<=c)(h2:r*c<=32768)(K0 K1:Tr T){g0 g1 R0 R1:RR}(p0:0<g0)(q0:g0<=1)(p1:0<g1)(hR0:0<=R0)(hR1:1<=R1)(H0:Good F r K0 g0 R0)(H1:Good F c K1 g1 R1):
  Good F (r*c) (radixF F.R (r*c) r K0 K1) ((1+g0)*(1+7*F.u)*(1+g1)-1) (R0+16*(r:RR)*R1):=by
 intro s hs X θ hX hθ hM
 have u0:=F.u0
 have u1:=F.u1
 have τ0:=F.τ0
 have n1:1<=r*c:=Nat.mul_pos r1 c1
 have ec:r*c/r=c:=Nat.mul_div_cancel_left _ r1
 have hr1:=RR.nat_le r1
 have hc1:=RR.nat_le c1
 rw[RR.nat_one] at hr1 hc1
 have hθ0:0<θ:=by grind
 rw[RR.nat_mul] at hM|-
 obtain⟨x,hx⟩:∃x:Nat->CC,(λi=>F.val (X i))=x:=⟨_,rfl⟩
 rw[hx] at hM|-
 obtain⟨A,hA⟩:∃A,nS (r*c) x+(r:RR)*(c:RR)*θ=A:=⟨_,rfl⟩
 rw[hA] at hM|-
 have hxS:=nS_nonneg (r*c) x
 have hrc:=RR.mul_nn (x:=(r:RR)) (y:=(c:RR)) (by grind) (by grind)
 have hrcθ:=RR.mul_nn hrc (show 0<=θ by grind)
 have hA0:0<=A:=by grind
 have hRR:0<=(r:RR)*R1:=RR.mul_nn (by grind) (by grind)
 have hM0:A*R0<=F.M/\16*(r:RR)*R1*A<=F.M:=by
  have h1:=RR.mul_nn hA0 hR0
  have h2:=RR.mul_nn hA0 hRR
  constructor<;>grind
 obtain⟨Y,hY⟩:∃Y,mid0F F.R c r s K0 X c=Y:=⟨_,rfl⟩
 obtain⟨y,hy⟩:∃y,mid0F RgE c r s (λs x j=>dft rtE r s x j) x c=y:=⟨_,rfl⟩
 have Yat:∀b a,b<c->a<r->Y (b+a*c)=K0 s (gathT X b c) a:=λb a hb ha=>by
  rw[<-hY];exact cols_at (λb=>K0 s (gathT X b c)) c r c b a _ hb (Nat.le_refl _) ha
 have yat:∀b a,b<c->a<r->y (b+a*c)=dft rtE r s (gathT x b c) a:=λb a hb ha=>by
  rw[<-hy];exact cols_at (λb=>(λs x j=>dft rtE r s x j) s (gathT x b c)) c r c b a _ hb (Nat.le_refl _) ha
 have egx:∀b,(λi=>F.val (gathT X b c i))=gathT x b c:=λb=>by rw[<-hx];rfl
 have hcol:nS (r*c) x=sumF c λb=>nS r (gathT x b c):=nS_grid r c x
 have hcb:∀b,b<c->nS r (gathT x b c)<=nS (r*c) x:=λb hb=>by
  rw[hcol];exact sumR_term (f:=λb=>nS r (gathT x b c)) (λk _=>nS_nonneg _ _) hb
 have hrθ:(r:RR)*θ<=(r:RR)*(c:RR)*θ:=by
  have:=RR.mul_nn (x:=(r:RR)*θ) (y:=(c:RR)-1) (RR.mul_nn (by grind) (by grind)) (by grind)
  grind
 have S1:∀b,b<c->(∀a,a<r->F.fin (K0 s (gathT X b c) a))/\nS r (λa=>F.val (K0 s (gathT X b c) a)-dft rtE r s (gathT x b c) a)<=(r:RR)*(g0*g0*(nS r (gathT x b c)+(r:RR)*θ)):=λb hb=>by
  have h:=H0 s hs (gathT X b c) θ (λi hi=>hX _ (by
   have:b+i*c<r*c:=by
    have:=Nat.mul_le_mul_right c (show i+1<=r by omega)
    rw[Nat.succ_mul] at this
    omega
   exact this)) hθ (by
   rw[egx b]
   have h1:=hcb b hb
   have h2:=mul_le_r hR0 (show nS r (gathT x b c)+(r:RR)*θ<=A by grind)
   grind)
  rw[egx b] at h
  exact h
 have E1:nS (r*c) (λk=>F.val (Y k)-y k)<=(r:RR)*(g0*g0*A):=by
  rw[nS_grid]
  have h1:(sumF c λb=>nS r λi=>F.val (Y (b+i*c))-y (b+i*c))<=sumF c λb=>(r:RR)*(g0*g0)*(nS r (gathT x b c)+(r:RR)*θ):=sumR_le λb hb=>by
   have h:=(S1 b hb).2
   have e:(nS r λi=>F.val (Y (b+i*c))-y (b+i*c))=nS r (λa=>F.val (K0 s (gathT X b c) a)-dft rtE r s (gathT x b c) a):=nS_congr λa ha=>by rw[Yat b a hb ha,yat b a hb ha]
   rw[e]
   grind
  rw[sumF_left,sumF_add,<-hcol,sumR_const] at h1
  have e:nS (r*c) x+(c:RR)*((r:RR)*θ)=A:=by grind
  rw[e] at h1
  grind
 have Yfin:∀k,k<r*c->F.fin (Y k):=λk hk=>by
  have e:k=k%c+k/c*c:=by have:=Nat.mod_add_div k c;rw[Nat.mul_comm] at this;omega
  have hb:k%c<c:=Nat.mod_lt _ c1
  have ha:k/c<r:=Nat.div_lt_of_lt_mul (by rw[Nat.mul_comm];exact hk)
  rw[e,Yat _ _ hb ha]
  exact(S1 _ hb).1 _ ha
 have Ey:nS (r*c) y=(r:RR)*nS (r*c) x:=by
  rw[nS_grid,hcol,<-sumF_left]
  refine sumF_congr λb hb=>?_
  rw[<-parseval (rts_E r) (λn a n1 _=>rtE_conj n n1 a) r1 (Nat.dvd_refl r) hs]
  exact nS_congr λa ha=>yat b a hb ha
 have hf0:0<=(r:RR)*((r:RR)*(c:RR)*θ):=RR.mul_nn (by grind) hrcθ
 have G1:=grow (n:=r*c) (a:=y) (b:=λk=>F.val (Y k)-y k) (S:=(r:RR)) (e:=g0) (A:=A) (f:=(r:RR)*((r:RR)*(c:RR)*θ)) p0 (by grind) hf0 (by
  rw[Ey,<-hA]
  have e:(r:RR)*nS (r*c) x+(r:RR)*((r:RR)*(c:RR)*θ)=(r:RR)*(nS (r*c) x+(r:RR)*(c:RR)*θ):=by grind
  rw[e]
  exact Std.IsPreorder.le_refl _) E1
 have eG1:nS (r*c) (λk=>y k+(F.val (Y k)-y k))=nS (r*c) λk=>F.val (Y k):=nS_congr λk _=>by grind
 rw[eG1] at G1
 obtain⟨Z,hZ⟩:∃Z,midF F.R (r*c) r s K0 X=Z:=⟨_,rfl⟩
 obtain⟨z,hz⟩:∃z,midF RgE (r*c) r s (λs x j=>dft rtE r s x j) x=z:=⟨_,rfl⟩
 obtain⟨w,hw⟩:∃w:Nat->Int,(λk=>unitI s*((k/c:Nat):Int)*((k%c:Nat):Int))=w:=⟨_,rfl⟩
 have Zat:∀k,Z k=F.R.mul (Y k) (F.R.root (w k) ((r*c:Nat):Int)):=λk=>by
  rw[<-hZ,<-hY,<-hw];unfold midF twistF;rw[ec]
 have zat:∀k,z k=y k*rtE (w k) (r*c):=λk=>by
  rw[<-hz,<-hy,<-hw];unfold midF twistF;rw[ec];rfl
 have hg1:(1+g0)*(1+g0)<=4:=by
  have:=RR.mul_nn (x:=1-g0) (y:=3+g0) (by grind) (by grind)
  grind
 have hrA:0<=(r:RR)*A:=RR.mul_nn (by grind) hA0
 have hrA4:nS (r*c) (λk=>F.val (Y k))+(r:RR)*((r:RR)*(c:RR)*θ)<=4*((r:RR)*A):=by
  have:=mul_le_l hrA hg1
  grind
 have hrAM:16*((r:RR)*A)<=F.M:=by
  have:=RR.mul_nn hrA (show 0<=R1-1 by grind)
  grind
 have hrθ0:0<=(r:RR)*θ:=RR.mul_nn (by grind) (by grind)
 have hτr:F.τ<=(r:RR)*θ:=by
  have:=RR.mul_nn (x:=(r:RR)-1) (y:=θ) (by grind) (by grind)
  grind
 have hrrθ:(r:RR)*θ<=(r:RR)*((r:RR)*(c:RR)*θ):=by
  have:=RR.mul_nn (x:=(r:RR)-1) (y:=(r:RR)*(c:RR)*θ) (by grind) hrcθ
  grind
 have S2:∀k,k<r*c->F.fin (Z k)/\nsq (F.val (Z k)-F.val (Y k)*rtE (w k) (r*c))<=(7*F.u)*(7*F.u)*(nsq (F.val (Y k))+(r:RR)*θ):=λk hk=>by
  have ht:=nS_term (f:=λk=>F.val (Y k)) hk
  have hq:=nsq_nonneg (F.val (Y k))
  have:=F.tw (Yfin k hk) (w k) n1 (by omega) (Q:=nsq (F.val (Y k))+(r:RR)*θ) (by grind) (by grind) (by grind)
  rw[Zat k]
  exact this
 have E2:nS (r*c) (λk=>F.val (Z k)-F.val (Y k)*rtE (w k) (r*c))<=(7*F.u*(1+g0))*(7*F.u*(1+g0))*((r:RR)*A):=by
  have h1:nS (r*c) (λk=>F.val (Z k)-F.val (Y k)*rtE (w k) (r*c))<=sumF (r*c) λk=>(7*F.u)*(7*F.u)*(nsq (F.val (Y k))+(r:RR)*θ):=sumR_le λk hk=>(S2 k hk).2
  rw[sumF_left,sumF_add,sumR_const,RR.nat_mul] at h1
  have e:sumF (r*c) (λk=>nsq (F.val (Y k)))=nS (r*c) λk=>F.val (Y k):=rfl
  rw[e] at h1
  have h2:=mul_le_l (c:=(7*F.u)*(7*F.u)) nn_sq (show nS (r*c) (λk=>F.val (Y k))+(r:RR)*(c:RR)*((r:RR)*θ)<=(r:RR)*((1+g0)*(1+g0)*A) by grind)
  grind
 have E3:nS (r*c) (λk=>F.val (Y k)*rtE (w k) (r*c)-z k)<=g0*g0*((r:RR)*A):=by
  have e:nS (r*c) (λk=>F.val (Y k)*rtE (w k) (r*c)-z k)=nS (r*c) λk=>F.val (Y k)-y k:=sumF_congr λk _=>by
   dsimp only
   rw[zat k]
   have e:F.val (Y k)*rtE (w k) (r*c)-y k*rtE (w k) (r*c)=(F.val (Y k)-y k)*rtE (w k) (r*c):=by grind
   rw[e,nsq_mul,rtE_nsq _ n1]
   grind
  rw[e]
  grind
 obtain⟨e2,he2⟩:∃e2,7*F.u*(1+g0)+g0=e2:=⟨_,rfl⟩
 have pu:0<7*F.u*(1+g0):=by
  have:=RR.mul_lt (a:=0) (b:=1+g0) (c:=7*F.u) (by grind) (by grind)
  grind
 have E4:nS (r*c) (λk=>F.val (Z k)-z k)<=(r:RR)*(e2*e2*A):=by
  have h:=nS_tri pu p0 E2 E3
  have e:nS (r*c) (λk=>F.val (Z k)-F.val (Y k)*rtE (w k) (r*c)+(F.val (Y k)*rtE (w k) (r*c)-z k))=nS (r*c) λk=>F.val (Z k)-z k:=nS_congr λk _=>by grind
  rw[e,he2] at h
  grind
 have Ez:nS (r*c) z=(r:RR)*nS (r*c) x:=by
  rw[<-Ey]
  exact sumF_congr λk _=>by rw[zat k,nsq_mul,rtE_nsq _ n1];grind
 have pe2:0<e2:=by grind
 have G2:=grow (n:=r*c) (a:=z) (b:=λk=>F.val (Z k)-z k) (S:=(r:RR)) (e:=e2) (A:=A) (f:=(r:RR)*((r:RR)*(c:RR)*θ)) pe2 (by grind) hf0 (by
  rw[Ez,<-hA]
  have e:(r:RR)*nS (r*c) x+(r:RR)*((r:RR)*(c:RR)*θ)=(r:RR)*(nS (r*c) x+(r:RR)*(c:RR)*θ):=by grind
  rw[e]
  exact Std.IsPreorder.le_refl _) E4
 have eG2:nS (r*c) (λk=>z k+(F.val (Z k)-z k))=nS (r*c) λk=>F.val (Z k):=nS_congr λk _=>by grind
 rw[eG2] at G2
 have hqe:(1+e2)*(1+e2)<=16:=by
  have h1:e2<=3:=by
   have:=RR.mul_nn (x:=F.u) (y:=1-g0) (by grind) (by grind)
   grind
  have:=RR.mul_nn (x:=3-e2) (y:=5+e2) (by grind) (by grind)
  grind
 have egz:∀a,(λi=>F.val (gathT Z (a*c) 1 i))=λi=>F.val (Z (a*c+i*1)):=λa=>rfl
 have hrow:(nS (r*c) λk=>F.val (Z k))=sumF r λa=>nS c λi=>F.val (Z (a*c+i*1)):=nS_rows r c _
 have hra:∀a,a<r->nS c (λi=>F.val (Z (a*c+i*1)))<=nS (r*c) λk=>F.val (Z k):=λa ha=>by
  rw[hrow];exact sumR_term (f:=λa=>nS c λi=>F.val (Z (a*c+i*1))) (λk _=>nS_nonneg _ _) ha
 have hcrθ:(c:RR)*((r:RR)*θ)<=(r:RR)*((r:RR)*(c:RR)*θ):=by
  have:=RR.mul_nn (x:=(r:RR)-1) (y:=(r:RR)*(c:RR)*θ) (by grind) hrcθ
  grind
 have S3:∀a,a<r->(∀d,d<c->F.fin (K1 s (gathT Z (a*c) 1) d))/\nS c (λd=>F.val (K1 s (gathT Z (a*c) 1) d)-dft rtE c s (λi=>F.val (Z (a*c+i*1))) d)<=(c:RR)*(g1*g1*(nS c (λi=>F.val (Z (a*c+i*1)))+(c:RR)*((r:RR)*θ))):=λa ha=>by
  have h:=H1 s hs (gathT Z (a*c) 1) ((r:RR)*θ) (λi hi=>(S2 _ (by
   have:a*c+i*1<r*c:=by
    have:=Nat.mul_le_mul_right c (show a+1<=r by omega)
    rw[Nat.succ_mul] at this
    omega
   exact this)).1) hτr (by
   rw[egz a]
   have h1:=hra a ha
   have h2:nS c (λi=>F.val (Z (a*c+i*1)))+(c:RR)*((r:RR)*θ)<=16*((r:RR)*A):=by
    have:=mul_le_l hrA hqe
    grind
   have h3:=mul_le_r (c:=R1) (by grind) h2
   grind)
  rw[egz a] at h
  exact h
 have Oat:∀a d,a<r->d<c->radixF F.R (r*c) r K0 K1 s X (a+d*r)=K1 s (gathT Z (a*c) 1) d:=λa d ha hd=>by
  rw[<-hZ]
  unfold radixF outF
  rw[ec]
  exact cols_at (λa=>K1 s (gathT (midF F.R (r*c) r s K0 X) (a*c) 1)) r c r a d _ ha (Nat.le_refl _) hd
 have oat:∀a d,a<r->d<c->dft rtE (r*c) s x (a+d*r)=dft rtE c s (λi=>z (a*c+i*1)) d:=λa d ha hd=>by
  have hlt:a+d*r<r*c:=by
   have:=Nat.mul_le_mul_right r (show d+1<=c by omega)
   rw[Nat.succ_mul,Nat.mul_comm c r] at this
   omega
  have h:=radix_dft (homE (r*c)) r1 c1 (Nat.dvd_refl _) hs (λs x j=>dft rtE r s x j) (λs x j=>dft rtE c s x j) (λx j _=>rfl) (λx j _=>rfl) x (a+d*r) hlt
  rw[<-h,<-hz]
  unfold radixF outF
  rw[ec]
  exact cols_at (λa=>(λs x j=>dft rtE c s x j) s (gathT (midF RgE (r*c) r s (λs x j=>dft rtE r s x j) x) (a*c) 1)) r c r a d _ ha (Nat.le_refl _) hd
 refine⟨λk hk=>?_,?_⟩
 ·have e:k=k%r+k/r*r:=by have:=Nat.mod_add_div k r;rw[Nat.mul_comm] at this;omega
  have hb:k%r<r:=Nat.mod_lt _ r1
  have ha:k/r<c:=Nat.div_lt_of_lt_mul hk
  rw[e,Oat _ _ hb ha]
  exact(S3 _ hb).1 _ ha
 have E5:(sumF r λa=>nS c λd=>F.val (K1 s (gathT Z (a*c) 1) d)-dft rtE c s (λi=>F.val (Z (a*c+i*1))) d)<=(g1*(1+e2))*(g1*(1+e2))*((r:RR)*(c:RR)*A):=by
  have h1:(sumF r λa=>nS c λd=>F.val (K1 s (gathT Z (a*c) 1) d)-dft rtE c s (λi=>F.val (Z (a*c+i*1))) d)<=sumF r λa=>(c:RR)*(g1*g1)*(nS c (λi=>F.val (Z (a*c+i*1)))+(c:RR)*((r:RR)*θ)):=sumR_le λa ha=>by
   have:=(S3 a ha).2
   grind
  rw[sumF_left,sumF_add,<-hrow,sumR_const] at h1
  have h2:=mul_le_l (c:=(c:RR)*(g1*g1)) (RR.mul_nn (by grind) nn_sq) (show nS (r*c) (λk=>F.val (Z k))+(r:RR)*((c:RR)*((r:RR)*θ))<=(r:RR)*((1+e2)*(1+e2)*A) by grind)
  grind
 have E6:(sumF r λa=>nS c λd=>dft rtE c s (λi=>F.val (Z (a*c+i*1))) d-dft rtE c s (λi=>z (a*c+i*1)) d)<=e2*e2*((r:RR)*(c:RR)*A):=by
  have h1:(sumF r λa=>nS c λd=>dft rtE c s (λi=>F.val (Z (a*c+i*1))) d-dft rtE c s (λi=>z (a*c+i*1)) d)=(c:RR)*nS (r*c) λk=>F.val (Z k)-z k:=by
   rw[nS_rows,<-sumF_left]
   exact sumF_congr λa _=>parseval_sub (rts_E c) (λn a n1 _=>rtE_conj n n1 a) c1 (Nat.dvd_refl c) hs _ _
  rw[h1]
  have:=mul_le_l (c:=(c:RR)) (by grind) E4
  grind
 have key:nS (r*c) (λk=>F.val (radixF F.R (r*c) r K0 K1 s X k)-dft rtE (r*c) s x k)<=(g1*(1+e2)+e2)*(g1*(1+e2)+e2)*((r:RR)*(c:RR)*A):=by
  obtain⟨f1,hf1⟩:∃f1:Nat->CC,∀a d,a<r->f1 (a+d*r)=F.val (K1 s (gathT Z (a*c) 1) d)-dft rtE c s (λi=>F.val (Z (a*c+i*1))) d:=⟨λk=>F.val (K1 s (gathT Z (k%r*c) 1) (k/r))-dft rtE c s (λi=>F.val (Z (k%r*c+i*1))) (k/r),λa d ha=>by
   have e1:(a+d*r)%r=a:=by rw[Nat.add_mul_mod_self_right,Nat.mod_eq_of_lt ha]
   have e2:(a+d*r)/r=d:=by rw[Nat.add_mul_div_right _ _ r1,Nat.div_eq_of_lt ha,Nat.zero_add]
   show F.val (K1 s (gathT Z ((a+d*r)%r*c) 1) ((a+d*r)/r))-dft rtE c s (λi=>F.val (Z ((a+d*r)%r*c+i*1))) ((a+d*r)/r)=_
   rw[e1,e2]⟩
  obtain⟨f2,hf2⟩:∃f2:Nat->CC,∀a d,a<r->f2 (a+d*r)=dft rtE c s (λi=>F.val (Z (a*c+i*1))) d-dft rtE c s (λi=>z (a*c+i*1)) d:=⟨λk=>dft rtE c s (λi=>F.val (Z (k%r*c+i*1))) (k/r)-dft rtE c s (λi=>z (k%r*c+i*1)) (k/r),λa d ha=>by
   have e1:(a+d*r)%r=a:=by rw[Nat.add_mul_mod_self_right,Nat.mod_eq_of_lt ha]
   have e2:(a+d*r)/r=d:=by rw[Nat.add_mul_div_right _ _ r1,Nat.div_eq_of_lt ha,Nat.zero_add]
   show dft rtE c s (λi=>F.val (Z ((a+d*r)%r*c+i*1))) ((a+d*r)/r)-dft rtE c s (λi=>z ((a+d*r)%r*c+i*1)) ((a+d*r)/r)=_
   rw[e1,e2]⟩
  have n1':nS (r*c) f1<=(g1*(1+e2))*(g1*(1+e2))*((r:RR)*(c:RR)*A):=by
   rw[nS_out,sumF_congr λa ha=>nS_congr λd _=>hf1 a d ha]
   exact E5
  have n2':nS (r*c) f2<=e2*e2*((r:RR)*(c:RR)*A):=by
   rw[nS_out,sumF_congr λa ha=>nS_congr λd _=>hf2 a d ha]
   exact E6
  have h:=nS_tri (by have:=RR.mul_lt (a:=0) (b:=1+e2) (c:=g1) (by grind) p1;grind) pe2 n1' n2'
  have e:nS (r*c) (λk=>F.val (radixF F.R (r*c) r K0 K1 s X k)-dft rtE (r*c) s x k)=nS (r*c) λk=>f1 k+f2 k:=by
   rw[nS_out,nS_out]
   refine sumF_congr λa ha=>nS_congr λd hd=>?_
   rw[Oat a d ha hd,oat a d ha hd,hf1 a d ha,hf2 a d ha]
   grind
  rw[e]
  exact h
 have ef:g1*(1+e2)+e2=(1+g0)*(1+7*F.u)*(1+g1)-1:=by rw[<-he2];grind
 rw[ef] at key
 grind
end
end CG
end Go.Proofs.YtmgfaeineklccaaGreat
namespace Go.Proofs.YtmgfaeineklccaaGreat
namespace CG
theorem nsq_comm_mul(a b:CC):a*b=b*a:=by grind
def pack(Q:Nat)(f0 f1 f2 f3:Nat->CC):Nat->CC:=λy=>if y<Q then f0 y else if y<2*Q then f1 (y-Q) else if y<3*Q then f2 (y-2*Q) else f3 (y-3*Q)
theorem pack_add(Q:Nat)(f0 f1 f2 f3 h0 h1 h2 h3:Nat->CC)(y:Nat):pack Q f0 f1 f2 f3 y+pack Q h0 h1 h2 h3 y=pack Q (λk=>f0 k+h0 k) (λk=>f1 k+h1 k) (λk=>f2 k+h2 k) (λk=>f3 k+h3 k) y:=by
 unfold pack
 split
 ·rfl
 ·split
  ·rfl
  ·split<;>rfl
theorem nS_pack(Q:Nat)(f0 f1 f2 f3:Nat->CC):nS (4*Q) (pack Q f0 f1 f2 f3)=nS Q f0+nS Q f1+nS Q f2+nS Q f3:=by
 have e:4*Q=Q+Q+Q+Q:=by omega
 rw[e]
 unfold nS
 rw[sumF_app,sumF_app,sumF_app]
 congr 1
 ·congr 1
  ·congr 1
   ·exact sumF_congr λk hk=>by unfold pack;rw[if_pos hk]
   ·exact sumF_congr λk hk=>by unfold pack;rw[if_neg (by omega),if_pos (by omega),show Q+k-Q=k by omega]
  ·exact sumF_congr λk hk=>by unfold pack;rw[if_neg (by omega),if_neg (by omega),if_pos (by omega),show Q+Q+k-2*Q=k by omega]
 ·exact sumF_congr λk hk=>by unfold pack;rw[if_neg (by omega),if_neg (by omega),if_neg (by omega),show Q+Q+Q+k-3*Q=k by omega]
theorem pack_of(Q:Nat)(f0 f1 f2 f3 g:Nat->CC)(h0:∀k,k<Q->g (k+0*Q)=f0 k)(h1:∀k,k<Q->g (k+1*Q)=f1 k)(h2:∀k,k<Q->g (k+2*Q)=f2 k)(h3:∀k,k<Q->g (k+3*Q)=f3 k)(y:Nat)(hy:y<4*Q):g y=pack Q f0 f1 f2 f3 y:=by
 unfold pack
 by_cases a:y<Q
 ·rw[if_pos a,<-h0 y a];congr 1;omega
 ·rw[if_neg a]
  by_cases b:y<2*Q
  ·rw[if_pos b,<-h1 (y-Q) (by omega)];congr 1;omega
  ·rw[if_neg b]
   by_cases c:y<3*Q
   ·rw[if_pos c,<-h2 (y-2*Q) (by omega)];congr 1;omega
   ·rw[if_neg c,<-h3 (y-3*Q) (by omega)];congr 1;omega
theorem split_at{T:Type}(R:Rg T){Q:Nat}(s:Int)(e z y:Nat->T)(g:Nat->T)(k:Nat)(hk:k<Q):
  foldT Q (splitR R (4*Q) s e z y) g (k+0*Q)=R.add (e k) (R.add (R.mul (R.root (s*(k:Int)) ((4*Q:Nat):Int)) (z k)) (R.mul (R.root (s*(-(k:Int))) ((4*Q:Nat):Int)) (y k)))/\
  foldT Q (splitR R (4*Q) s e z y) g (k+1*Q)=R.add (e (k+Q)) (R.mul (R.root (s*((Q:Nat):Int)) ((4*Q:Nat):Int)) (R.sub (R.mul (R.root (s*(k:Int)) ((4*Q:Nat):Int)) (z k)) (R.mul (R.root (s*(-(k:Int))) ((4*Q:Nat):Int)) (y k))))/\
  foldT Q (splitR R (4*Q) s e z y) g (k+2*Q)=R.sub (e k) (R.add (R.mul (R.root (s*(k:Int)) ((4*Q:Nat):Int)) (z k)) (R.mul (R.root (s*(-(k:Int))) ((4*Q:Nat):Int)) (y k)))/\
  foldT Q (splitR R (4*Q) s e z y) g (k+3*Q)=R.sub (e (k+Q)) (R.mul (R.root (s*((Q:Nat):Int)) ((4*Q:Nat):Int)) (R.sub (R.mul (R.root (s*(k:Int)) ((4*Q:Nat):Int)) (z k)) (R.mul (R.root (s*(-(k:Int))) ((4*Q:Nat):Int)) (y k)))):=by
 have eQ:4*Q/4=Q:=Nat.mul_div_cancel_left _ (by omega)
 let ii:=R.root (s*((Q:Nat):Int)) ((4*Q:Nat):Int)
 let uu:=λk:Nat=>R.mul (R.root (s*(k:Int)) ((4*Q:Nat):Int)) (z k)
 let vv:=λk:Nat=>R.mul (R.root (s*(-(k:Int))) ((4*Q:Nat):Int)) (y k)
 let V:Nat->Nat->T:=λw k=>match w with
  |0=>R.add (e k) (R.add (uu k) (vv k))
  |1=>R.add (e (k+Q)) (R.mul ii (R.sub (uu k) (vv k)))
  |2=>R.sub (e k) (R.add (uu k) (vv k))
  |_=>R.sub (e (k+Q)) (R.mul ii (R.sub (uu k) (vv k)))
 have eV:∀u,u<4->foldT Q (splitR R (4*Q) s e z y) g (k+u*Q)=V u k:=λu hu=>by
  have:splitR R (4*Q) s e z y=λh k=>updT (updT (updT (updT h k (V 0 k)) (k+2*Q) (V 2 k)) (k+Q) (V 1 k)) (k+3*Q) (V 3 k):=by
   funext h k
   unfold splitR
   rw[eQ]
   rfl
  rw[this]
  exact fold4 Q V Q (Nat.le_refl _) g u k hu hk
 exact⟨eV 0 (by omega),eV 1 (by omega),eV 2 (by omega),eV 3 (by omega)⟩
theorem para(a b:CC):nsq (a+b)+nsq (a-b)=2*nsq a+2*nsq b:=by
 unfold nsq
 simp only[CC.add_re,CC.add_im,CC.sub_re,CC.sub_im]
 grind
theorem para_le(a b:CC):nsq (a+b)<=2*nsq a+2*nsq b/\nsq (a-b)<=2*nsq a+2*nsq b:=by
 have h:=para a b
 have h1:=nsq_nonneg (a+b)
 have h2:=nsq_nonneg (a-b)
 constructor<;>grind
section
variable {T : Type} (F : FL T)
theorem Good.mono{n:Nat}{K:Tr T}{g g' R R':RR}(h:Good F n K g R)(hg0:0<=g)(hg:g<=g')(hR:R<=R'):Good F n K g' R':=by
 intro s hs X θ hX hθ hM
 have τ0:=F.τ0
 have hS:=nS_nonneg n (λi=>F.val (X i))
 have hn:=RR.mul_nn (RR.nat_nn n) (show 0<=θ by grind)
 have h1:=mul_le_l (c:=nS n (λi=>F.val (X i))+(n:RR)*θ) (by grind) hR
 obtain⟨f,e⟩:=h s hs X θ hX hθ (by grind)
 refine⟨f,?_⟩
 have h2:=sq_mono hg0 hg (A:=nS n (λi=>F.val (X i))+(n:RR)*θ) (by grind)
 have h3:=mul_le_l (RR.nat_nn n) h2
 grind
theorem FL.tw2{a:T}(ha:F.fin a)(k:Int){n:Nat}(n1:1<=n)(n2:n<=65536){Q:RR}(hQ:nsq (F.val a)<=Q)(hτ:F.τ<=Q)(hM:2*Q<=F.M):
  F.fin (F.R.mul (F.R.root k n) a)/\nsq (F.val (F.R.mul (F.R.root k n) a)-F.val a*rtE k n)<=(7*F.u)*(7*F.u)*Q:=by
 obtain⟨fr,er⟩:=F.root k n1 n2
 have hw:=rtE_nsq n n1 k
 have u0:=F.u0
 have u1:=F.u1
 have u2:=F.uu
 have τ0:=F.τ0
 have lt:=F.lt
 have hQ0:0<=Q:=by grind
 have hW:nsq (F.val (F.R.root k n))<=(1+2*F.u)*(1+2*F.u):=by
  have h:=nsq_tri (a:=rtE k n) (b:=F.val (F.R.root k n)-rtE k n) (α:=1) (β:=2*F.u) (A:=1) (by grind) (by grind) (by rw[hw];grind) (by grind)
  have e:rtE k n+(F.val (F.R.root k n)-rtE k n)=F.val (F.R.root k n):=by grind
  rw[e] at h
  grind
 have hW2:100*nsq (F.val (F.R.root k n))<=101:=by grind
 have hP:100*(nsq (F.val (F.R.root k n))*nsq (F.val a))<=101*Q:=by
  have h1:=mul_le_r (c:=nsq (F.val (F.R.root k n))) (nsq_nonneg _) hQ
  have h2:=mul_le_l hQ0 hW2
  grind
 obtain⟨fm,em⟩:=F.mul fr ha (by grind)
 refine⟨fm,?_⟩
 have k1:nsq (F.val (F.R.mul (F.R.root k n) a)-F.val (F.R.root k n)*F.val a)<=(4*F.u)*(4*F.u)*Q:=by
  have h1:=mul_le_l (c:=F.u*F.u) (by grind) hP
  have h2:=mul_le_l (c:=F.u*F.u) (by grind) hτ
  have h3:=RR.mul_nn (x:=F.u*F.u) (y:=Q) (by grind) hQ0
  grind
 have k2:nsq (F.val a*(F.val (F.R.root k n)-rtE k n))<=(2*F.u)*(2*F.u)*Q:=by
  rw[nsq_mul]
  have h1:=mul_le_r (c:=nsq (F.val (F.R.root k n)-rtE k n)) (nsq_nonneg _) hQ
  have h2:=mul_le_l hQ0 er
  grind
 have h:=nsq_tri (by grind) (by grind) k1 k2
 have e:F.val (F.R.mul (F.R.root k n) a)-F.val (F.R.root k n)*F.val a+F.val a*(F.val (F.R.root k n)-rtE k n)=F.val (F.R.mul (F.R.root k n) a)-F.val a*rtE k n:=by grind
 rw[e] at h
 have:=sq_mono (a:=4*F.u+2*F.u) (b:=7*F.u) (A:=Q) (by grind) (by grind) hQ0
 grind
theorem FL.twisted{n N:Nat}(n1:1<=n)(N1:1<=N)(N2:N<=65536){K:Tr T}{g R:RR}(p0:0<g)(q0:g<=1)(hR:8*(n:RR)<=R)(H:Good F n K g R){s:Int}(hs:s=1\/s=-1)(X:Nat->T)(θ:RR)(hX:∀i,i<n->F.fin (X i))(hθ:F.τ<=θ)(hM:(nS n (λi=>F.val (X i))+(n:RR)*θ)*R<=F.M)(w:Nat->Int):
  (∀i,i<n->F.fin (F.R.mul (F.R.root (w i) N) (K s X i)))/\nS n (λi=>F.val (F.R.mul (F.R.root (w i) N) (K s X i))-dft rtE n s (λi=>F.val (X i)) i*rtE (w i) N)<=(n:RR)*(((1+g)*(1+7*F.u)-1)*((1+g)*(1+7*F.u)-1)*(nS n (λi=>F.val (X i))+(n:RR)*θ)):=by
 have u0:=F.u0
 have u1:=F.u1
 have τ0:=F.τ0
 obtain⟨f,e1⟩:=H s hs X θ hX hθ hM
 have hn1:=RR.nat_le n1
 rw[RR.nat_one] at hn1
 have hS:=nS_nonneg n (λi=>F.val (X i))
 have hnθ:=RR.mul_nn (RR.nat_nn n) (show 0<=θ by grind)
 obtain⟨A,hA⟩:∃A,nS n (λi=>F.val (X i))+(n:RR)*θ=A:=⟨_,rfl⟩
 rw[hA] at e1 hM|-
 have hA0:0<=A:=by grind
 have hnA:=RR.mul_nn (RR.nat_nn n) hA0
 have hMA:8*((n:RR)*A)<=F.M:=by
  have:=mul_le_l hA0 hR
  grind
 have Ed:nS n (dft rtE n s λi=>F.val (X i))=(n:RR)*nS n (λi=>F.val (X i)):=parseval (rts_E n) (λn a n1 _=>rtE_conj n n1 a) n1 (Nat.dvd_refl n) hs _
 have G1:=grow (n:=n) (a:=dft rtE n s λi=>F.val (X i)) (b:=λk=>F.val (K s X k)-dft rtE n s (λi=>F.val (X i)) k) (S:=(n:RR)) (e:=g) (A:=A) (f:=(n:RR)*((n:RR)*θ)) p0 (by grind) (RR.mul_nn (by grind) hnθ) (by
  rw[Ed,<-hA]
  have e:(n:RR)*nS n (λi=>F.val (X i))+(n:RR)*((n:RR)*θ)=(n:RR)*(nS n (λi=>F.val (X i))+(n:RR)*θ):=by grind
  rw[e]
  exact Std.IsPreorder.le_refl _) e1
 have eG1:nS n (λk=>dft rtE n s (λi=>F.val (X i)) k+(F.val (K s X k)-dft rtE n s (λi=>F.val (X i)) k))=nS n λk=>F.val (K s X k):=nS_congr λk _=>by grind
 rw[eG1] at G1
 have hg4:(1+g)*(1+g)<=4:=by
  have:=RR.mul_nn (x:=1-g) (y:=3+g) (by grind) (by grind)
  grind
 have h4:nS n (λk=>F.val (K s X k))+(n:RR)*((n:RR)*θ)<=4*((n:RR)*A):=by
  have:=mul_le_l hnA hg4
  grind
 have hnn:(n:RR)*θ<=(n:RR)*((n:RR)*θ):=by
  have:=RR.mul_nn (x:=(n:RR)-1) (y:=(n:RR)*θ) (by grind) hnθ
  grind
 have hτn:F.τ<=(n:RR)*θ:=by
  have:=RR.mul_nn (x:=(n:RR)-1) (y:=θ) (by grind) (by grind)
  grind
 have S2:∀k,k<n->F.fin (F.R.mul (F.R.root (w k) N) (K s X k))/\nsq (F.val (F.R.mul (F.R.root (w k) N) (K s X k))-F.val (K s X k)*rtE (w k) N)<=(7*F.u)*(7*F.u)*(nsq (F.val (K s X k))+(n:RR)*θ):=λk hk=>by
  have ht:=nS_term (f:=λk=>F.val (K s X k)) hk
  have hq:=nsq_nonneg (F.val (K s X k))
  exact F.tw2 (f k hk) (w k) N1 N2 (Q:=nsq (F.val (K s X k))+(n:RR)*θ) (by grind) (by grind) (by grind)
 refine⟨λi hi=>(S2 i hi).1,?_⟩
 have E2:nS n (λk=>F.val (F.R.mul (F.R.root (w k) N) (K s X k))-F.val (K s X k)*rtE (w k) N)<=(7*F.u*(1+g))*(7*F.u*(1+g))*((n:RR)*A):=by
  have h1:nS n (λk=>F.val (F.R.mul (F.R.root (w k) N) (K s X k))-F.val (K s X k)*rtE (w k) N)<=sumF n λk=>(7*F.u)*(7*F.u)*(nsq (F.val (K s X k))+(n:RR)*θ):=sumR_le λk hk=>(S2 k hk).2
  rw[sumF_left,sumF_add,sumR_const] at h1
  have e:sumF n (λk=>nsq (F.val (K s X k)))=nS n λk=>F.val (K s X k):=rfl
  rw[e] at h1
  have h2:=mul_le_l (c:=(7*F.u)*(7*F.u)) nn_sq G1
  grind
 have E3:nS n (λk=>F.val (K s X k)*rtE (w k) N-dft rtE n s (λi=>F.val (X i)) k*rtE (w k) N)<=g*g*((n:RR)*A):=by
  have e:nS n (λk=>F.val (K s X k)*rtE (w k) N-dft rtE n s (λi=>F.val (X i)) k*rtE (w k) N)=nS n λk=>F.val (K s X k)-dft rtE n s (λi=>F.val (X i)) k:=sumF_congr λk _=>by
   have e:F.val (K s X k)*rtE (w k) N-dft rtE n s (λi=>F.val (X i)) k*rtE (w k) N=(F.val (K s X k)-dft rtE n s (λi=>F.val (X i)) k)*rtE (w k) N:=by grind
   dsimp only
   rw[e,nsq_mul,rtE_nsq _ N1]
   grind
  rw[e]
  grind
 have pu:0<7*F.u*(1+g):=by
  have:=RR.mul_lt (a:=0) (b:=1+g) (c:=7*F.u) (by grind) (by grind)
  grind
 have h:=nS_tri pu p0 E2 E3
 have e:nS n (λk=>F.val (F.R.mul (F.R.root (w k) N) (K s X k))-F.val (K s X k)*rtE (w k) N+(F.val (K s X k)*rtE (w k) N-dft rtE n s (λi=>F.val (X i)) k*rtE (w k) N))=nS n (λi=>F.val (F.R.mul (F.R.root (w i) N) (K s X i))-dft rtE n s (λi=>F.val (X i)) i*rtE (w i) N):=nS_congr λk _=>by grind
 rw[e] at h
 have ef:7*F.u*(1+g)+g=(1+g)*(1+7*F.u)-1:=by grind
 rw[ef] at h
 grind
end
end CG
end Go.Proofs.YtmgfaeineklccaaGreat
namespace Go.Proofs.YtmgfaeineklccaaGreat
namespace CG
theorem nS_para(n:Nat)(f g:Nat->CC):nS n (λk=>f k+g k)+nS n (λk=>f k-g k)=2*nS n f+2*nS n g:=by
 unfold nS
 rw[<-sumF_add,<-sumF_left,<-sumF_left,<-sumF_add]
 exact sumF_congr λk _=>para (f k) (g k)
theorem nS_split2(Q:Nat)(f:Nat->CC):nS (2*Q) f=nS Q f+nS Q λk=>f (k+Q):=by
 have e:2*Q=Q+Q:=by omega
 rw[e]
 unfold nS
 rw[sumF_app]
 congr 1
 exact sumF_congr λk _=>by rw[Nat.add_comm Q k]
theorem nS_turn(n:Nat)(f:Nat->CC)(c:CC)(hc:nsq c=1):nS n (λk=>f k*c)=nS n f:=sumF_congr λk _=>by
 dsimp only
 rw[nsq_mul,hc];grind
theorem nS_neg(n:Nat)(f:Nat->CC):nS n (λk=>-f k)=nS n f:=sumF_congr λk _=>nsq_neg _
section
variable {T : Type} (F : FL T)
theorem FL.step{Q:Nat}(hQ:1<=Q)(hN:4*Q<=32768){Ke Kq:Tr T}{g Rr:RR}(p0:0<g)(q0:4*g<=1)(hR:16*(Q:RR)<=Rr)(hR2:Rr<=256*(Q:RR))(He:Good F (2*Q) Ke g Rr)(Hq:Good F Q Kq g Rr)(s:Int)(hs:s=1\/s=-1)(X:Nat->T)(θ:RR)(hX:∀i,i<4*Q->F.fin (X i))(hθ:F.τ<=θ)(hM:(nS (4*Q) (λi=>F.val (X i))+((4*Q:Nat):RR)*θ)*(256*(Q:RR))<=F.M)(h0:Nat->T)(E Z Y:Nat->T)(hE:∀k,k<2*Q->E k=Ke s (gathT X 0 2) k)(hZ:∀k,k<Q->Z k=Kq s (gathT X 1 4) k)(hY:∀k,k<Q->Y k=Kq s (consT (X (4*Q-1)) (gathT X 3 4)) k):
  (∀i,i<4*Q->F.fin (foldT Q (splitR F.R (4*Q) s E Z Y) h0 i))/\
  nS (4*Q) (λi=>F.val (foldT Q (splitR F.R (4*Q) s E Z Y) h0 i)-dft rtE (4*Q) s (λi=>F.val (X i)) i)<=((4*Q:Nat):RR)*(((1+g)*(1+7*F.u)*(1+11*F.u)-1)*((1+g)*(1+7*F.u)*(1+11*F.u)-1)*(nS (4*Q) (λi=>F.val (X i))+((4*Q:Nat):RR)*θ)):=by
 have u0:=F.u0
 have u1:=F.u1
 have τ0:=F.τ0
 have n1:1<=4*Q:=by omega
 have hq1:=RR.nat_le hQ
 rw[RR.nat_one] at hq1
 have e4:((4*Q:Nat):RR)=4*(Q:RR):=by rw[RR.nat_mul];rfl
 have e2:((2*Q:Nat):RR)=2*(Q:RR):=by rw[RR.nat_mul];rfl
 rw[e4] at hM|-
 obtain⟨x,hx⟩:∃x:Nat->CC,(λi=>F.val (X i))=x:=⟨_,rfl⟩
 rw[hx] at hM|-
 obtain⟨q,hq⟩:∃q:RR,(Q:RR)=q:=⟨_,rfl⟩
 rw[hq] at hq1 e4 e2 hM hR hR2|-
 obtain⟨A,hA⟩:∃A,nS (4*Q) x+4*q*θ=A:=⟨_,rfl⟩
 rw[hA] at hM|-
 have hqθ:=RR.mul_nn (x:=q) (y:=θ) (by grind) (by grind)
 have exe:(λi=>F.val (gathT X 0 2 i))=λt=>x (0+t*2):=by rw[<-hx];rfl
 have exz:(λi=>F.val (gathT X 1 4 i))=λt=>x (1+t*4):=by rw[<-hx];rfl
 have exy:(λi=>F.val (consT (X (4*Q-1)) (gathT X 3 4) i))=λt=>if t=0 then x (4*Q-1) else x (3+(t-1)*4):=by
  rw[<-hx];funext t;unfold consT;split<;>rfl
 obtain⟨xe,hxe⟩:∃xe:Nat->CC,(λt=>x (0+t*2))=xe:=⟨_,rfl⟩
 obtain⟨xz,hxz⟩:∃xz:Nat->CC,(λt=>x (1+t*4))=xz:=⟨_,rfl⟩
 obtain⟨xy,hxy⟩:∃xy:Nat->CC,(λt=>if t=0 then x (4*Q-1) else x (3+(t-1)*4))=xy:=⟨_,rfl⟩
 rw[hxe] at exe
 rw[hxz] at exz
 rw[hxy] at exy
 have en:nS (4*Q) x=nS (2*Q) xe+nS Q xz+nS Q xy:=by
  unfold nS
  rw[sum_four Q hQ]
  congr 1
  ·congr 1
   ·exact sumF_congr λt _=>by rw[<-hxe];show nsq (x (2*t))=nsq (x (0+t*2));rw[show 0+t*2=2*t by omega]
   ·exact sumF_congr λt _=>by rw[<-hxz];show nsq (x (4*t+1))=nsq (x (1+t*4));rw[show 1+t*4=4*t+1 by omega]
  ·exact sumF_congr λt _=>by
     rw[<-hxy]
     show nsq (x (if t=0 then 4*Q-1 else 4*t-1))=nsq (if t=0 then x (4*Q-1) else x (3+(t-1)*4))
     by_cases h:t=0
     ·rw[if_pos h,if_pos h]
     ·rw[if_neg h,if_neg h,show 3+(t-1)*4=4*t-1 by omega]
 have pe:=nS_nonneg (2*Q) xe
 have pz:=nS_nonneg Q xz
 have py:=nS_nonneg Q xy
 obtain⟨Ae,hAe⟩:∃a,nS (2*Q) xe+2*q*θ=a:=⟨_,rfl⟩
 obtain⟨Az,hAz⟩:∃a,nS Q xz+q*θ=a:=⟨_,rfl⟩
 obtain⟨Ay,hAy⟩:∃a,nS Q xy+q*θ=a:=⟨_,rfl⟩
 have hAs:A=Ae+Az+Ay:=by grind
 have hAe0:0<=Ae:=by grind
 have hAz0:0<=Az:=by grind
 have hAy0:0<=Ay:=by grind
 have hA0:0<=A:=by grind
 have hqA:=RR.mul_nn (x:=q) (y:=A) (by grind) hA0
 have hRr:A*Rr<=F.M:=by
  have:=mul_le_l hA0 hR2
  grind
 have hRr0:0<=Rr:=by grind
 obtain⟨fE,eE⟩:=He s hs (gathT X 0 2) θ (λi hi=>hX _ (by omega)) hθ (by
  rw[exe,e2,hAe]
  have:=mul_le_r hRr0 (show Ae<=A by grind)
  grind)
 rw[exe,e2,hAe] at eE
 have HZ:=F.twisted hQ n1 (by omega) (K:=Kq) p0 (by grind) (by grind) Hq hs (gathT X 1 4) θ (λi hi=>hX _ (by omega)) hθ (by
  rw[exz,hq,hAz]
  have:=mul_le_r hRr0 (show Az<=A by grind)
  grind) (λk=>s*(k:Int))
 have HY:=F.twisted hQ n1 (by omega) (K:=Kq) p0 (by grind) (by grind) Hq hs (consT (X (4*Q-1)) (gathT X 3 4)) θ (λi hi=>by
  unfold consT
  split
  ·exact hX _ (by omega)
  ·exact hX _ (by omega)) hθ (by
  rw[exy,hq,hAy]
  have:=mul_le_r hRr0 (show Ay<=A by grind)
  grind) (λk=>s*(-(k:Int)))
 rw[exz,hq,hAz] at HZ
 rw[exy,hq,hAy] at HY
 obtain⟨eg,heg⟩:∃eg,(1+g)*(1+7*F.u)-1=eg:=⟨_,rfl⟩
 rw[heg] at HZ HY
 obtain⟨U,hU⟩:∃U:Nat->T,(λk:Nat=>F.R.mul (F.R.root (s*(k:Int)) ((4*Q:Nat):Int)) (Z k))=U:=⟨_,rfl⟩
 obtain⟨V,hV⟩:∃V:Nat->T,(λk:Nat=>F.R.mul (F.R.root (s*(-(k:Int))) ((4*Q:Nat):Int)) (Y k))=V:=⟨_,rfl⟩
 obtain⟨ue,hue⟩:∃ue:Nat->CC,(λk:Nat=>dft rtE Q s xz k*rtE (s*(k:Int)) (4*Q))=ue:=⟨_,rfl⟩
 obtain⟨ve,hve⟩:∃ve:Nat->CC,(λk:Nat=>dft rtE Q s xy k*rtE (s*(-(k:Int))) (4*Q))=ve:=⟨_,rfl⟩
 obtain⟨ee,hee⟩:∃ee:Nat->CC,dft rtE (2*Q) s xe=ee:=⟨_,rfl⟩
 have fU:∀k,k<Q->F.fin (U k):=λk hk=>by rw[<-hU];dsimp only;rw[hZ k hk];exact HZ.1 k hk
 have fV:∀k,k<Q->F.fin (V k):=λk hk=>by rw[<-hV];dsimp only;rw[hY k hk];exact HY.1 k hk
 have fEE:∀k,k<2*Q->F.fin (E k):=λk hk=>by rw[hE k hk];exact fE k hk
 have dU:nS Q (λk=>F.val (U k)-ue k)<=q*(eg*eg*Az):=by
  have e:nS Q (λk=>F.val (U k)-ue k)=_:=nS_congr (g:=λi=>F.val (F.R.mul (F.R.root (s*(i:Int)) ((4*Q:Nat):Int)) (Kq s (gathT X 1 4) i))-dft rtE Q s xz i*rtE (s*(i:Int)) (4*Q)) λk hk=>by rw[<-hU,<-hue];dsimp only;rw[hZ k hk]
  rw[e];exact HZ.2
 have dV:nS Q (λk=>F.val (V k)-ve k)<=q*(eg*eg*Ay):=by
  have e:nS Q (λk=>F.val (V k)-ve k)=_:=nS_congr (g:=λi=>F.val (F.R.mul (F.R.root (s*(-(i:Int))) ((4*Q:Nat):Int)) (Kq s (consT (X (4*Q-1)) (gathT X 3 4)) i))-dft rtE Q s xy i*rtE (s*(-(i:Int))) (4*Q)) λk hk=>by rw[<-hV,<-hve];dsimp only;rw[hY k hk]
  rw[e];exact HY.2
 have dE:nS (2*Q) (λk=>F.val (E k)-ee k)<=2*q*(g*g*Ae):=by
  have e:nS (2*Q) (λk=>F.val (E k)-ee k)=_:=nS_congr (g:=λi=>F.val (Ke s (gathT X 0 2) i)-dft rtE (2*Q) s xe i) λk hk=>by rw[<-hee,hE k hk]
  rw[e];exact eE
 clear HZ HY eE fE He Hq
 have heg0:g<=eg/\2*eg<=1/\0<eg:=by
  have h1:=RR.mul_nn (x:=g) (y:=F.u) (by grind) (by grind)
  have h2:=RR.mul_nn (x:=1-g) (y:=F.u) (by grind) (by grind)
  refine⟨by grind,by grind,by grind⟩
 obtain⟨hge,heg1,hegp⟩:=heg0
 have h3:(1+eg)*(1+eg)<=3:=by
  have:=RR.mul_nn (x:=1-2*eg) (y:=5+2*eg) (by grind) (by grind)
  grind
 have ce:nS (2*Q) ee=2*q*nS (2*Q) xe:=by rw[<-hee,parseval (rts_E (2*Q)) (λn a n1 _=>rtE_conj n n1 a) (by omega) (Nat.dvd_refl _) hs,e2]
 have cu:nS Q ue=q*nS Q xz:=by
  rw[<-hq,<-parseval (rts_E Q) (λn a n1 _=>rtE_conj n n1 a) hQ (Nat.dvd_refl _) hs,<-hue]
  exact sumF_congr λk _=>by dsimp only;rw[nsq_mul,rtE_nsq _ n1];grind
 have cv:nS Q ve=q*nS Q xy:=by
  rw[<-hq,<-parseval (rts_E Q) (λn a n1 _=>rtE_conj n n1 a) hQ (Nat.dvd_refl _) hs,<-hve]
  exact sumF_congr λk _=>by dsimp only;rw[nsq_mul,rtE_nsq _ n1];grind
 have hqqθ:=RR.mul_nn (x:=q) (y:=q*θ) (by grind) hqθ
 have gU:=grow (n:=Q) (a:=ue) (b:=λk=>F.val (U k)-ue k) (S:=q) (e:=eg) (A:=Az) (f:=q*(q*θ)) hegp (by grind) hqqθ (by
  rw[cu,<-hAz]
  have e:q*nS Q xz+q*(q*θ)=q*(nS Q xz+q*θ):=by grind
  rw[e];exact Std.IsPreorder.le_refl _) dU
 have gV:=grow (n:=Q) (a:=ve) (b:=λk=>F.val (V k)-ve k) (S:=q) (e:=eg) (A:=Ay) (f:=q*(q*θ)) hegp (by grind) hqqθ (by
  rw[cv,<-hAy]
  have e:q*nS Q xy+q*(q*θ)=q*(nS Q xy+q*θ):=by grind
  rw[e];exact Std.IsPreorder.le_refl _) dV
 have dE2:nS (2*Q) (λk=>F.val (E k)-ee k)<=2*q*(eg*eg*Ae):=by
  have h1:=sq_mono (a:=g) (b:=eg) (A:=Ae) (by grind) hge hAe0
  have h2:=mul_le_l (c:=2*q) (by grind) h1
  grind
 have gE:=grow (n:=2*Q) (a:=ee) (b:=λk=>F.val (E k)-ee k) (S:=2*q) (e:=eg) (A:=Ae) (f:=2*q*(2*q*θ)) hegp (by grind) (by grind) (by
  rw[ce,<-hAe]
  have e:2*q*nS (2*Q) xe+2*q*(2*q*θ)=2*q*(nS (2*Q) xe+2*q*θ):=by grind
  rw[e];exact Std.IsPreorder.le_refl _) dE2
 have eU:nS Q (λk=>ue k+(F.val (U k)-ue k))=nS Q λk=>F.val (U k):=nS_congr λk _=>by grind
 have eV:nS Q (λk=>ve k+(F.val (V k)-ve k))=nS Q λk=>F.val (V k):=nS_congr λk _=>by grind
 have eEE:nS (2*Q) (λk=>ee k+(F.val (E k)-ee k))=nS (2*Q) λk=>F.val (E k):=nS_congr λk _=>by grind
 rw[eU] at gU
 rw[eV] at gV
 rw[eEE] at gE
 have hqAz:=RR.mul_nn (x:=q) (y:=Az) (by grind) hAz0
 have hqAy:=RR.mul_nn (x:=q) (y:=Ay) (by grind) hAy0
 have hqAe:=RR.mul_nn (x:=q) (y:=Ae) (by grind) hAe0
 have bU:nS Q (λk=>F.val (U k))<=3*(q*Az):=by have:=mul_le_l hqAz h3;grind
 have bV:nS Q (λk=>F.val (V k))<=3*(q*Ay):=by have:=mul_le_l hqAy h3;grind
 have bE:nS (2*Q) (λk=>F.val (E k))<=6*(q*Ae):=by have:=mul_le_l hqAe h3;grind
 have hqA3:q*A=q*Ae+q*Az+q*Ay:=by grind
 obtain⟨B,hB⟩:∃B,q*A=B:=⟨_,rfl⟩
 have hMB:256*B<=F.M:=by grind
 have pU:∀k,k<Q->nsq (F.val (U k))<=3*(q*Az):=λk hk=>by have:=nS_term (f:=λk=>F.val (U k)) hk;grind
 have pV:∀k,k<Q->nsq (F.val (V k))<=3*(q*Ay):=λk hk=>by have:=nS_term (f:=λk=>F.val (V k)) hk;grind
 have pE:∀k,k<2*Q->nsq (F.val (E k))<=6*B:=λk hk=>by have:=nS_term (f:=λk=>F.val (E k)) hk;grind
 have uu2:=F.uu
 have sa:∀k,k<Q->F.fin (F.R.add (U k) (V k))/\nsq (F.val (F.R.add (U k) (V k))-(F.val (U k)+F.val (V k)))<=F.u*F.u*nsq (F.val (U k)+F.val (V k))/\nsq (F.val (U k)+F.val (V k))<=6*B:=λk hk=>by
  have h1:=pU k hk
  have h2:=pV k hk
  have h4:=(para_le (F.val (U k)) (F.val (V k))).1
  have h5:=F.add (fU k hk) (fV k hk) (by grind)
  exact⟨h5.1,h5.2,by grind⟩
 have sb:∀k,k<Q->F.fin (F.R.sub (U k) (V k))/\nsq (F.val (F.R.sub (U k) (V k))-(F.val (U k)-F.val (V k)))<=F.u*F.u*nsq (F.val (U k)-F.val (V k))/\nsq (F.val (U k)-F.val (V k))<=6*B:=λk hk=>by
  have h1:=pU k hk
  have h2:=pV k hk
  have h4:=(para_le (F.val (U k)) (F.val (V k))).2
  have h5:=F.sub (fU k hk) (fV k hk) (by grind)
  exact⟨h5.1,h5.2,by grind⟩
 obtain⟨a,ha⟩:∃a:Nat->T,(λk=>F.R.add (U k) (V k))=a:=⟨_,rfl⟩
 obtain⟨b,hb⟩:∃b:Nat->T,(λk=>F.R.sub (U k) (V k))=b:=⟨_,rfl⟩
 obtain⟨d,hd⟩:∃d:Nat->T,(λk=>F.R.mul (F.R.root (s*((Q:Nat):Int)) ((4*Q:Nat):Int)) (b k))=d:=⟨_,rfl⟩
 have ea:∀k,F.R.add (U k) (V k)=a k:=λk=>by rw[<-ha]
 have eb:∀k,F.R.sub (U k) (V k)=b k:=λk=>by rw[<-hb]
 have ed:∀k,F.R.mul (F.R.root (s*((Q:Nat):Int)) ((4*Q:Nat):Int)) (b k)=d k:=λk=>by rw[<-hd]
 obtain⟨ii,hii⟩:∃ii,rtE (s*((Q:Nat):Int)) (4*Q)=ii:=⟨_,rfl⟩
 have nii:nsq ii=1:=by rw[<-hii];exact rtE_nsq _ n1 _
 have hu1:(1+F.u)*(1+F.u)<=2:=by grind
 have hτq:F.τ<=q*θ:=by
  have:=RR.mul_nn (x:=q-1) (y:=θ) (by grind) (by grind)
  grind
 have hqθB:q*θ<=B:=by
  have:=RR.mul_nn (x:=q-1) (y:=A) (by grind) hA0
  grind
 have sd:∀k,k<Q->F.fin (d k)/\nsq (F.val (d k)-(F.val (U k)-F.val (V k))*ii)<=(9*F.u)*(9*F.u)*(nsq (F.val (U k)-F.val (V k))+q*θ):=λk hk=>by
  obtain⟨f1,e1,e6⟩:=sb k hk
  rw[eb k] at f1 e1
  have q0:=nsq_nonneg (F.val (U k)-F.val (V k))
  obtain⟨P,hP⟩:∃P,nsq (F.val (U k)-F.val (V k))+q*θ=P:=⟨_,rfl⟩
  have e3:=nsq_tri (a:=F.val (U k)-F.val (V k)) (b:=F.val (b k)-(F.val (U k)-F.val (V k))) (α:=1) (β:=F.u) (A:=nsq (F.val (U k)-F.val (V k))) (by grind) u0 (by grind) e1
  have e5:F.val (U k)-F.val (V k)+(F.val (b k)-(F.val (U k)-F.val (V k)))=F.val (b k):=by grind
  rw[e5] at e3
  have e7:nsq (F.val (b k))+q*θ<=(1+F.u)*(1+F.u)*P:=by
   have h7:=RR.mul_nn (x:=q*θ) (y:=(1+F.u)*(1+F.u)-1) hqθ (by grind)
   rw[<-hP]
   generalize (1+F.u)*(1+F.u)=W at*
   grind
  have hP0:0<=P:=by grind
  have e8:=mul_le_r hP0 hu1
  obtain⟨f2,e9⟩:=F.tw2 f1 (s*((Q:Nat):Int)) n1 (by omega) (Q:=(1+F.u)*(1+F.u)*P) (by grind) (by have:=nsq_nonneg (F.val (b k));grind) (by grind)
  rw[ed k] at f2
  rw[ed k,hii] at e9
  refine⟨f2,?_⟩
  have e10:nsq ((F.val (b k)-(F.val (U k)-F.val (V k)))*ii)<=F.u*F.u*P:=by
   rw[nsq_mul,nii]
   have:=mul_le_l (c:=F.u*F.u) (by grind) (show nsq (F.val (U k)-F.val (V k))<=P by grind)
   grind
  have e11:nsq (F.val (d k)-F.val (b k)*ii)<=(7*F.u*(1+F.u))*(7*F.u*(1+F.u))*P:=by grind
  have e12:=nsq_tri (by have:=RR.mul_lt (a:=0) (b:=1+F.u) (c:=7*F.u) (by grind) (by grind);grind) u0 e11 e10
  have e13:F.val (d k)-F.val (b k)*ii+(F.val (b k)-(F.val (U k)-F.val (V k)))*ii=F.val (d k)-(F.val (U k)-F.val (V k))*ii:=by grind
  rw[e13] at e12
  have huu:7*(F.u*F.u)<=F.u:=by
   have:=RR.mul_nn (x:=1-1000000000000*F.u) (y:=F.u) (by grind) (by grind)
   grind
  have e14:=sq_mono (a:=7*F.u*(1+F.u)+F.u) (b:=9*F.u) (A:=P) (by grind) (by grind) hP0
  rw[hP]
  grind
 obtain⟨L,hL⟩:∃L,pack Q (λk=>F.val (E k)+(F.val (U k)+F.val (V k))) (λk=>F.val (E (k+Q))+(F.val (U k)-F.val (V k))*ii) (λk=>F.val (E k)-(F.val (U k)+F.val (V k))) (λk=>F.val (E (k+Q))-(F.val (U k)-F.val (V k))*ii)=L:=⟨_,rfl⟩
 obtain⟨D,hD⟩:∃D,pack Q (λk=>F.val (a k)-(F.val (U k)+F.val (V k))) (λk=>F.val (d k)-(F.val (U k)-F.val (V k))*ii) (λk=>-(F.val (a k)-(F.val (U k)+F.val (V k)))) (λk=>-(F.val (d k)-(F.val (U k)-F.val (V k))*ii))=D:=⟨_,rfl⟩
 have nL:nS (4*Q) L=2*nS (2*Q) (λk=>F.val (E k))+4*nS Q (λk=>F.val (U k))+4*nS Q (λk=>F.val (V k)):=by
  rw[<-hL,nS_pack]
  have h1:nS Q (λk=>F.val (E k)+(F.val (U k)+F.val (V k)))+nS Q (λk=>F.val (E k)-(F.val (U k)+F.val (V k)))=2*nS Q (λk=>F.val (E k))+2*nS Q (λk=>F.val (U k)+F.val (V k)):=nS_para Q (λk=>F.val (E k)) (λk=>F.val (U k)+F.val (V k))
  have h2:nS Q (λk=>F.val (E (k+Q))+(F.val (U k)-F.val (V k))*ii)+nS Q (λk=>F.val (E (k+Q))-(F.val (U k)-F.val (V k))*ii)=2*nS Q (λk=>F.val (E (k+Q)))+2*nS Q (λk=>(F.val (U k)-F.val (V k))*ii):=nS_para Q (λk=>F.val (E (k+Q))) (λk=>(F.val (U k)-F.val (V k))*ii)
  have h4:nS Q (λk=>F.val (U k)+F.val (V k))+nS Q (λk=>F.val (U k)-F.val (V k))=2*nS Q (λk=>F.val (U k))+2*nS Q (λk=>F.val (V k)):=nS_para Q (λk=>F.val (U k)) (λk=>F.val (V k))
  have h5:nS Q (λk=>(F.val (U k)-F.val (V k))*ii)=nS Q (λk=>F.val (U k)-F.val (V k)):=nS_turn Q (λk=>F.val (U k)-F.val (V k)) ii nii
  have h6:nS (2*Q) (λk=>F.val (E k))=nS Q (λk=>F.val (E k))+nS Q (λk=>F.val (E (k+Q))):=nS_split2 Q (λk=>F.val (E k))
  rw[h5] at h2
  rw[h6]
  generalize nS Q (λk=>F.val (E k)+(F.val (U k)+F.val (V k)))=w1 at*
  generalize nS Q (λk=>F.val (E k)-(F.val (U k)+F.val (V k)))=w2 at*
  generalize nS Q (λk=>F.val (E (k+Q))+(F.val (U k)-F.val (V k))*ii)=w3 at*
  generalize nS Q (λk=>F.val (E (k+Q))-(F.val (U k)-F.val (V k))*ii)=w4 at*
  generalize nS Q (λk=>F.val (U k)+F.val (V k))=w5 at*
  generalize nS Q (λk=>F.val (U k)-F.val (V k))=w6 at*
  clear gU gV gE bU bV bE dU dV dE dE2
  grind
 have nD:nS (4*Q) D<=(9*F.u)*(9*F.u)*(nS (4*Q) L+4*q*(4*q*θ)):=by
  rw[<-hD,nS_pack,nS_neg,nS_neg,nL]
  have h1:nS Q (λk=>F.val (a k)-(F.val (U k)+F.val (V k)))<=F.u*F.u*nS Q (λk=>F.val (U k)+F.val (V k)):=by
   have h:nS Q (λk=>F.val (a k)-(F.val (U k)+F.val (V k)))<=sumF Q λk=>F.u*F.u*nsq (F.val (U k)+F.val (V k)):=sumR_le λk hk=>by have h:=(sa k hk).2.1;rw[ea k] at h;exact h
   rw[sumF_left] at h
   exact h
  have h2:nS Q (λk=>F.val (d k)-(F.val (U k)-F.val (V k))*ii)<=(9*F.u)*(9*F.u)*(nS Q (λk=>F.val (U k)-F.val (V k))+q*(q*θ)):=by
   have h:nS Q (λk=>F.val (d k)-(F.val (U k)-F.val (V k))*ii)<=sumF Q λk=>(9*F.u)*(9*F.u)*(nsq (F.val (U k)-F.val (V k))+q*θ):=sumR_le λk hk=>(sd k hk).2
   rw[sumF_left,sumF_add,sumR_const,hq] at h
   exact h
  have h4:=nS_para Q (λk=>F.val (U k)) (λk=>F.val (V k))
  have p1:=nS_nonneg Q (λk=>F.val (U k)+F.val (V k))
  have p2:=nS_nonneg (2*Q) (λk=>F.val (E k))
  have p3:=nS_nonneg Q (λk=>F.val (U k)-F.val (V k))
  generalize nS Q (λk=>F.val (U k)+F.val (V k))=w1 at*
  generalize nS Q (λk=>F.val (U k)-F.val (V k))=w2 at*
  generalize nS Q (λk=>F.val (U k))=w3 at*
  generalize nS Q (λk=>F.val (V k))=w4 at*
  generalize nS (2*Q) (λk=>F.val (E k))=w5 at*
  have h5:=RR.mul_nn (x:=F.u*F.u) (y:=w1) (by grind) p1
  have h6:=RR.mul_nn (x:=F.u*F.u) (y:=w5) (by grind) p2
  have h7:=RR.mul_nn (x:=F.u*F.u) (y:=q*(q*θ)) (by grind) hqqθ
  have h8:(9*F.u)*(9*F.u)*(2*w5+4*w3+4*w4+4*q*(4*q*θ))=162*(F.u*F.u*w5)+162*(F.u*F.u*(w1+w2))+1296*(F.u*F.u*(q*(q*θ))):=by grind
  rw[h8]
  grind
 obtain⟨C,hC⟩:∃C,nS (4*Q) L+4*q*(4*q*θ)=C:=⟨_,rfl⟩
 rw[hC] at nD
 have pL:=nS_nonneg (4*Q) L
 have hC0:0<=C:=by grind
 obtain⟨o,ho⟩:∃o,foldT Q (splitR F.R (4*Q) s E Z Y) h0=o:=⟨_,rfl⟩
 have oat:∀k,k<Q->o (k+0*Q)=F.R.add (E k) (a k)/\o (k+1*Q)=F.R.add (E (k+Q)) (d k)/\o (k+2*Q)=F.R.sub (E k) (a k)/\o (k+3*Q)=F.R.sub (E (k+Q)) (d k):=λk hk=>by
  have h:=split_at F.R s E Z Y h0 k hk
  rw[ho] at h
  have eu:F.R.mul (F.R.root (s*(k:Int)) ((4*Q:Nat):Int)) (Z k)=U k:=by rw[<-hU]
  have ev:F.R.mul (F.R.root (s*(-(k:Int))) ((4*Q:Nat):Int)) (Y k)=V k:=by rw[<-hV]
  rw[eu,ev,ea k,eb k,ed k] at h
  exact h
 have tailA:∀(t:T) (v:CC) (E0:T),F.fin t->F.fin E0->nsq (F.val E0)<=6*B->nsq (F.val t-v)<=13*B->nsq v<=6*B->nsq (F.val E0+F.val t)<=F.M/\nsq (F.val E0-F.val t)<=F.M:=λt v E0 h1 h2 h5 h6 h7=>by
  have e1:=(para_le (F.val t-v) v).1
  have e5:F.val t-v+v=F.val t:=by grind
  rw[e5] at e1
  have e6:=para_le (F.val E0) (F.val t)
  constructor<;>grind
 have hBp:0<=B:=by grind
 have fin4:∀k,k<Q->(F.fin (o (k+0*Q))/\nsq (F.val (o (k+0*Q))-(L (k+0*Q)+D (k+0*Q)))<=F.u*F.u*nsq (L (k+0*Q)+D (k+0*Q)))/\(F.fin (o (k+1*Q))/\nsq (F.val (o (k+1*Q))-(L (k+1*Q)+D (k+1*Q)))<=F.u*F.u*nsq (L (k+1*Q)+D (k+1*Q)))/\(F.fin (o (k+2*Q))/\nsq (F.val (o (k+2*Q))-(L (k+2*Q)+D (k+2*Q)))<=F.u*F.u*nsq (L (k+2*Q)+D (k+2*Q)))/\(F.fin (o (k+3*Q))/\nsq (F.val (o (k+3*Q))-(L (k+3*Q)+D (k+3*Q)))<=F.u*F.u*nsq (L (k+3*Q)+D (k+3*Q))):=λk hk=>by
  obtain⟨o0,o1,o2,o3⟩:=oat k hk
  obtain⟨f1,e1,e6⟩:=sa k hk
  rw[ea k] at f1 e1
  obtain⟨f2,e7⟩:=sd k hk
  have e8:=(sb k hk).2.2
  have huB:=RR.mul_nn (x:=F.u*F.u) (y:=B) (by grind) hBp
  have m1:=mul_le_l (c:=F.u*F.u) (by grind) e6
  have m2:=mul_le_l (c:=(9*F.u)*(9*F.u)) (by grind) (show nsq (F.val (U k)-F.val (V k))+q*θ<=7*B by grind)
  have hsmall:=RR.mul_nn (x:=1-1000*(F.u*F.u)) (y:=B) (by grind) hBp
  have t1:=tailA (a k) (F.val (U k)+F.val (V k)) (E k) f1 (fEE k (by omega)) (pE k (by omega)) (by grind) e6
  have t2:=tailA (d k) ((F.val (U k)-F.val (V k))*ii) (E (k+Q)) f2 (fEE (k+Q) (by omega)) (pE (k+Q) (by omega)) (by grind) (by rw[nsq_mul,nii];grind)
  have a0:=F.add (fEE k (by omega)) f1 t1.1
  have a1:=F.add (fEE (k+Q) (by omega)) f2 t2.1
  have a2:=F.sub (fEE k (by omega)) f1 t1.2
  have a3:=F.sub (fEE (k+Q) (by omega)) f2 t2.2
  have w0:L (k+0*Q)+D (k+0*Q)=F.val (E k)+F.val (a k):=by
   rw[<-hL,<-hD,pack_add];unfold pack;rw[if_pos (by omega),show k+0*Q=k by omega];grind
  have w1:L (k+1*Q)+D (k+1*Q)=F.val (E (k+Q))+F.val (d k):=by
   rw[<-hL,<-hD,pack_add];unfold pack;rw[if_neg (by omega),if_pos (by omega),show k+1*Q-Q=k by omega];grind
  have w2:L (k+2*Q)+D (k+2*Q)=F.val (E k)-F.val (a k):=by
   rw[<-hL,<-hD,pack_add];unfold pack;rw[if_neg (by omega),if_neg (by omega),if_pos (by omega),show k+2*Q-2*Q=k by omega];grind
  have w3:L (k+3*Q)+D (k+3*Q)=F.val (E (k+Q))-F.val (d k):=by
   rw[<-hL,<-hD,pack_add];unfold pack;rw[if_neg (by omega),if_neg (by omega),if_neg (by omega),show k+3*Q-3*Q=k by omega];grind
  rw[w0,w1,w2,w3,o0,o1,o2,o3]
  exact⟨a0,a1,a2,a3⟩
 have fino:∀y,y<4*Q->F.fin (o y)/\nsq (F.val (o y)-(L y+D y))<=F.u*F.u*nsq (L y+D y):=λy hy=>by
  have hm:y%Q<Q:=Nat.mod_lt _ hQ
  have hd4:y/Q<4:=Nat.div_lt_of_lt_mul (by rw[Nat.mul_comm];exact hy)
  have e:y=y%Q+y/Q*Q:=by have:=Nat.mod_add_div y Q;rw[Nat.mul_comm] at this;omega
  have h:=fin4 (y%Q) hm
  have hc:y/Q=0\/y/Q=1\/y/Q=2\/y/Q=3:=(show ∀t:Nat,t<4->t=0\/t=1\/t=2\/t=3 by omega) _ hd4
  rw[e]
  rcases hc with hc|hc|hc|hc<;>rw[hc]
  ·exact h.1
  ·exact h.2.1
  ·exact h.2.2.1
  ·exact h.2.2.2
 have nLD:=nS_tri (n:=4*Q) (f:=L) (g:=D) (α:=1) (β:=9*F.u) (A:=C) (by grind) (by grind) (by grind) nD
 have nO:nS (4*Q) (λy=>F.val (o y)-(L y+D y))<=(2*F.u)*(2*F.u)*C:=by
  have h:nS (4*Q) (λy=>F.val (o y)-(L y+D y))<=sumF (4*Q) λy=>F.u*F.u*nsq (L y+D y):=sumR_le λy hy=>(fino y hy).2
  rw[sumF_left] at h
  have e:sumF (4*Q) (λy=>nsq (L y+D y))=nS (4*Q) λy=>L y+D y:=rfl
  rw[e] at h
  have h1:=sq_mono (a:=1+9*F.u) (b:=2) (A:=C) (by grind) (by grind) hC0
  have h2:=mul_le_l (c:=F.u*F.u) (by grind) (Std.IsPreorder.le_trans _ _ _ nLD h1)
  grind
 have nR:=nS_tri (by grind) (by grind) nD nO
 have eR:nS (4*Q) (λy=>D y+(F.val (o y)-(L y+D y)))=nS (4*Q) λy=>F.val (o y)-L y:=nS_congr λy _=>by grind
 rw[eR] at nR
 obtain⟨G,hG⟩:∃G,pack Q (λk=>(F.val (E k)-ee k)+((F.val (U k)-ue k)+(F.val (V k)-ve k))) (λk=>(F.val (E (k+Q))-ee (k+Q))+((F.val (U k)-ue k)-(F.val (V k)-ve k))*ii) (λk=>(F.val (E k)-ee k)-((F.val (U k)-ue k)+(F.val (V k)-ve k))) (λk=>(F.val (E (k+Q))-ee (k+Q))-((F.val (U k)-ue k)-(F.val (V k)-ve k))*ii)=G:=⟨_,rfl⟩
 have nG:nS (4*Q) G<=4*q*(eg*eg*A):=by
  rw[<-hG,nS_pack]
  obtain⟨fe,hfe⟩:∃f:Nat->CC,(λk=>F.val (E k)-ee k)=f:=⟨_,rfl⟩
  obtain⟨fu,hfu⟩:∃f:Nat->CC,(λk=>F.val (U k)-ue k)=f:=⟨_,rfl⟩
  obtain⟨fv,hfv⟩:∃f:Nat->CC,(λk=>F.val (V k)-ve k)=f:=⟨_,rfl⟩
  rw[hfe] at dE2
  rw[hfu] at dU
  rw[hfv] at dV
  have r1:(λk=>(F.val (E k)-ee k)+((F.val (U k)-ue k)+(F.val (V k)-ve k)))=λk=>fe k+(fu k+fv k):=by rw[<-hfe,<-hfu,<-hfv]
  have r2:(λk=>(F.val (E (k+Q))-ee (k+Q))+((F.val (U k)-ue k)-(F.val (V k)-ve k))*ii)=λk=>fe (k+Q)+(fu k-fv k)*ii:=by rw[<-hfe,<-hfu,<-hfv]
  have r3:(λk=>(F.val (E k)-ee k)-((F.val (U k)-ue k)+(F.val (V k)-ve k)))=λk=>fe k-(fu k+fv k):=by rw[<-hfe,<-hfu,<-hfv]
  have r4:(λk=>(F.val (E (k+Q))-ee (k+Q))-((F.val (U k)-ue k)-(F.val (V k)-ve k))*ii)=λk=>fe (k+Q)-(fu k-fv k)*ii:=by rw[<-hfe,<-hfu,<-hfv]
  rw[r1,r2,r3,r4]
  have h1:nS Q (λk=>fe k+(fu k+fv k))+nS Q (λk=>fe k-(fu k+fv k))=2*nS Q fe+2*nS Q (λk=>fu k+fv k):=nS_para Q fe (λk=>fu k+fv k)
  have h2:nS Q (λk=>fe (k+Q)+(fu k-fv k)*ii)+nS Q (λk=>fe (k+Q)-(fu k-fv k)*ii)=2*nS Q (λk=>fe (k+Q))+2*nS Q (λk=>(fu k-fv k)*ii):=nS_para Q (λk=>fe (k+Q)) (λk=>(fu k-fv k)*ii)
  have h4:nS Q (λk=>fu k+fv k)+nS Q (λk=>fu k-fv k)=2*nS Q fu+2*nS Q fv:=nS_para Q fu fv
  have h5:nS Q (λk=>(fu k-fv k)*ii)=nS Q (λk=>fu k-fv k):=nS_turn Q (λk=>fu k-fv k) ii nii
  have h6:nS (2*Q) fe=nS Q fe+nS Q (λk=>fe (k+Q)):=nS_split2 Q fe
  rw[h5] at h2
  rw[h6] at dE2
  generalize nS Q (λk=>fe k+(fu k+fv k))=w1 at*
  generalize nS Q (λk=>fe k-(fu k+fv k))=w2 at*
  generalize nS Q (λk=>fe (k+Q)+(fu k-fv k)*ii)=w3 at*
  generalize nS Q (λk=>fe (k+Q)-(fu k-fv k)*ii)=w4 at*
  generalize nS Q (λk=>fu k+fv k)=w5 at*
  generalize nS Q (λk=>fu k-fv k)=w6 at*
  generalize nS Q (λk=>fe (k+Q))=w7 at*
  generalize nS Q fe=w8 at*
  generalize nS Q fu=w9 at*
  generalize nS Q fv=w10 at*
  have key:w1+w3+w2+w4=2*(w8+w7)+4*w9+4*w10:=by
   clear dE2 dU dV
   grind
  have k2:2*(w8+w7)+4*w9+4*w10<=4*q*(eg*eg*A):=by
   rw[hAs]
   grind
  grind
 have dft4:∀y,y<4*Q->dft rtE (4*Q) s x y=L y-G y:=λy hy=>by
  have h:=split_step (homE (4*Q)) hQ (Nat.dvd_refl _) hs x ee (dft rtE Q s xz) (dft rtE Q s xy) (λ_=>0) (λj hj=>by
   rw[<-hee]
   exact dft_congr _ _ (λk _=>by rw[<-hxe];show x (0+k*2)=x (2*k);rw[show 0+k*2=2*k by omega]) _) (λj hj=>dft_congr _ _ (λk _=>by rw[<-hxz];show x (1+k*4)=x (4*k+1);rw[show 1+k*4=4*k+1 by omega]) _) (λj hj=>dft_congr _ _ (λk _=>by
    rw[<-hxy]
    show(if k=0 then x (4*Q-1) else x (3+(k-1)*4))=x (if k=0 then 4*Q-1 else 4*k-1)
    by_cases h:k=0
    ·rw[if_pos h,if_pos h]
    ·rw[if_neg h,if_neg h,show 3+(k-1)*4=4*k-1 by omega]) _) y hy
  rw[<-h]
  have e1:∀k:Nat,RgE.mul (RgE.root (s*(k:Int)) ((4*Q:Nat):Int)) (dft rtE Q s xz k)=ue k:=λk=>by rw[<-hue];exact nsq_comm_mul _ _
  have e3:∀k:Nat,RgE.mul (RgE.root (s*(-(k:Int))) ((4*Q:Nat):Int)) (dft rtE Q s xy k)=ve k:=λk=>by rw[<-hve];exact nsq_comm_mul _ _
  have e5:∀z:CC,RgE.mul (RgE.root (s*((Q:Nat):Int)) ((4*Q:Nat):Int)) z=z*ii:=λz=>by rw[<-hii];exact nsq_comm_mul _ _
  have hall:∀k,k<Q->_:=λk hk=>split_at RgE s ee (dft rtE Q s xz) (dft rtE Q s xy) (λ_=>0) k hk
  have hp:=pack_of Q (λk=>ee k+(ue k+ve k)) (λk=>ee (k+Q)+(ue k-ve k)*ii) (λk=>ee k-(ue k+ve k)) (λk=>ee (k+Q)-(ue k-ve k)*ii) (foldT Q (splitR RgE (4*Q) s ee (dft rtE Q s xz) (dft rtE Q s xy)) λ_=>0)
   (λk hk=>by rw[(hall k hk).1,e1,e3];rfl) (λk hk=>by rw[(hall k hk).2.1,e1,e3,e5];rfl) (λk hk=>by rw[(hall k hk).2.2.1,e1,e3];rfl) (λk hk=>by rw[(hall k hk).2.2.2,e1,e3,e5];rfl) y hy
  show foldT Q (splitR RgE (4*Q) s ee (dft rtE Q s xz) (dft rtE Q s xy)) (λ_=>0) y=_
  rw[hp]
  have e6:pack Q (λk=>ee k+(ue k+ve k)) (λk=>ee (k+Q)+(ue k-ve k)*ii) (λk=>ee k-(ue k+ve k)) (λk=>ee (k+Q)-(ue k-ve k)*ii) y+G y=L y:=by
   rw[<-hG,<-hL,pack_add]
   congr 1
   all_goals(funext k;grind)
  rw[<-e6]
  grind
 have ndft:nS (4*Q) (dft rtE (4*Q) s x)=4*q*nS (4*Q) x:=by rw[parseval (rts_E (4*Q)) (λn a n1 _=>rtE_conj n n1 a) n1 (Nat.dvd_refl _) hs,e4]
 have gL:=grow (n:=4*Q) (a:=dft rtE (4*Q) s x) (b:=G) (S:=4*q) (e:=eg) (A:=A) (f:=4*q*(4*q*θ)) hegp (by grind) (by grind) (by
  rw[ndft,<-hA]
  have e:4*q*nS (4*Q) x+4*q*(4*q*θ)=4*q*(nS (4*Q) x+4*q*θ):=by grind
  rw[e];exact Std.IsPreorder.le_refl _) nG
 have eL:nS (4*Q) (λy=>dft rtE (4*Q) s x y+G y)=nS (4*Q) L:=nS_congr λy hy=>by rw[dft4 y hy];grind
 rw[eL,hC] at gL
 have nR2:nS (4*Q) (λy=>F.val (o y)-L y)<=(11*F.u*(1+eg))*(11*F.u*(1+eg))*(4*q*A):=by
  have h:=mul_le_l (c:=(11*F.u)*(11*F.u)) (by grind) gL
  have e:9*F.u+2*F.u=11*F.u:=by grind
  rw[e] at nR
  grind
 have nG2:nS (4*Q) G<=eg*eg*(4*q*A):=by grind
 have nF:=nS_tri (by have:=RR.mul_lt (a:=0) (b:=1+eg) (c:=11*F.u) (by grind) (by grind);grind) hegp nR2 nG2
 refine⟨λy hy=>by rw[ho];exact(fino y hy).1,?_⟩
 rw[ho]
 have eF:nS (4*Q) (λy=>F.val (o y)-L y+G y)=nS (4*Q) λy=>F.val (o y)-dft rtE (4*Q) s x y:=nS_congr λy hy=>by rw[dft4 y hy];grind
 rw[eF] at nF
 have ef:11*F.u*(1+eg)+eg=(1+g)*(1+7*F.u)*(1+11*F.u)-1:=by rw[<-heg];grind
 rw[ef] at nF
 grind
end
end CG
end Go.Proofs.YtmgfaeineklccaaGreat
namespace Go.Proofs.YtmgfaeineklccaaGreat
namespace CG
section
variable {T : Type} (F : FL T)
theorem FL.split:∀(f n k:Nat),n=2^k->n<=f+1->n<=32768->Good F n (splitF F.R f n) ((40+20*(k:RR))*F.u) (64*(n:RR)):=by
 have u0:=F.u0
 have u1:=F.u1
 have small:∀(n k:Nat),n=2^k->n<4->Good F n (directF F.R n) ((40+20*(k:RR))*F.u) (64*(n:RR)):=λn k hk h4=>by
  have hk2:k=0\/k=1:=by
   apply Classical.byContradiction
   intro hn
   have:2^2<=2^k:=Nat.pow_le_pow_right (by decide) (by omega)
   omega
  rcases hk2 with rfl|rfl
  ·have e:n=1:=by rw[hk]
   subst e
   have hn:((1:Nat):RR)=1:=rfl
   have h0:((0:Nat):RR)=0:=rfl
   have h:=F.leaf (n:=1) (by omega) (by omega) (σ:=1) (by grind) (by rw[hn];grind)
   rw[hn] at h
   rw[hn,h0]
   exact Good.mono F h (by grind) (by grind) (by grind)
  ·have e:n=2:=by rw[hk]
   subst e
   have hn:((2:Nat):RR)=2:=rfl
   have h1:((1:Nat):RR)=1:=rfl
   have h:=F.leaf (n:=2) (by omega) (by omega) (σ:=2) (by grind) (by rw[hn];grind)
   rw[hn] at h
   rw[hn,h1]
   exact Good.mono F h (by grind) (by grind) (by grind)
 intro f
 induction f with
 |zero=>
   intro n k hk hf hn
   exact small n k hk (by omega)
 |succ f ih=>
   intro n k hk hf hn
   by_cases h4:n<4
   ·have e:splitF F.R (f+1) n=directF F.R n:=by
      funext s x
      show(if n<4 then directF F.R n s x else _)=_
      rw[if_pos h4]
    rw[e]
    exact small n k hk h4
   ·obtain⟨t,rfl⟩:∃t,k=t+2:=⟨k-2,by
      have:¬k<2:=λhk2=>by
       have:k=0\/k=1:=by omega
       rcases this with rfl|rfl<;>omega
      omega⟩
    have hk15:t+2<=15:=by
     apply Classical.byContradiction
     intro hc
     have:2^16<=2^(t+2):=Nat.pow_le_pow_right (by decide) (by omega)
     omega
    obtain⟨Q,hQ⟩:∃Q,2^t=Q:=⟨_,rfl⟩
    have e4:n=4*Q:=by rw[hk,<-hQ,Nat.pow_add];omega
    have hQ1:1<=Q:=by rw[<-hQ];exact Nat.pow_pos (by decide)
    subst e4
    have d2:4*Q/2=2*Q:=by omega
    have d4:4*Q/4=Q:=by omega
    have ht:=RR.nat_le hk15
    have e15:((15:Nat):RR)=15:=rfl
    rw[RR.nat_add,e15] at ht
    have e2n:((2:Nat):RR)=2:=rfl
    rw[e2n] at ht
    have ht0:=RR.nat_nn t
    have He:=ih (2*Q) (t+1) (by rw[Nat.pow_succ,hQ,Nat.mul_comm]) (by omega) (by omega)
    have Hq:=ih Q t hQ.symm (by omega) (by omega)
    have e2:((2*Q:Nat):RR)=2*(Q:RR):=by rw[RR.nat_mul];rfl
    have e4:((4*Q:Nat):RR)=4*(Q:RR):=by rw[RR.nat_mul];rfl
    have hq0:=RR.nat_nn Q
    have hq1:=RR.nat_le hQ1
    rw[RR.nat_one] at hq1
    rw[e2,RR.nat_add,RR.nat_one] at He
    have htu:=RR.mul_nn ht0 (show 0<=F.u by grind)
    have htu2:=RR.mul_nn (x:=13-(t:RR)) (y:=F.u) (by grind) (by grind)
    have Hq2:=Good.mono F (g':=(40+20*((t:RR)+1))*F.u) (R':=64*(2*(Q:RR))) Hq (by grind) (by grind) (by grind)
    intro s hs X θ hX hθ hM
    have h:=F.step hQ1 hn (g:=(40+20*((t:RR)+1))*F.u) (Rr:=64*(2*(Q:RR))) (by grind) (by grind) (by grind) (by grind) He Hq2 s hs X θ hX hθ (by
     rw[e4] at hM|-
     have e:256*(Q:RR)=64*(4*(Q:RR)):=by grind
     rw[e]
     exact hM) (λ_=>F.R.zero) (splitF F.R f (2*Q) s (gathT X 0 2)) (splitF F.R f Q s (gathT X 1 4)) (splitF F.R f Q s (consT (X (4*Q-1)) (gathT X 3 4))) (λ_ _=>rfl) (λ_ _=>rfl) (λ_ _=>rfl)
    have eo:splitF F.R (f+1) (4*Q) s X=foldT Q (splitR F.R (4*Q) s (splitF F.R f (2*Q) s (gathT X 0 2)) (splitF F.R f Q s (gathT X 1 4)) (splitF F.R f Q s (consT (X (4*Q-1)) (gathT X 3 4)))) (λ_=>F.R.zero):=by
     show(if 4*Q<4 then directF F.R (4*Q) s X else foldT (4*Q/4) (splitR F.R (4*Q) s (splitF F.R f (4*Q/2) s (gathT X 0 2)) (splitF F.R f (4*Q/4) s (gathT X 1 4)) (splitF F.R f (4*Q/4) s (consT (X (4*Q-1)) (gathT X 3 4)))) (λ_=>F.R.zero))=_
     rw[if_neg h4,d2,d4]
    rw[eo]
    refine⟨h.1,?_⟩
    have hS:=nS_nonneg (4*Q) (λi=>F.val (X i))
    have τ0:=F.τ0
    have hA:0<=nS (4*Q) (λi=>F.val (X i))+((4*Q:Nat):RR)*θ:=by
     have:=RR.mul_nn (RR.nat_nn (4*Q)) (show 0<=θ by grind)
     grind
    obtain⟨g,hg⟩:∃g,(40+20*((t:RR)+1))*F.u=g:=⟨_,rfl⟩
    rw[hg] at h
    have hg0:0<=g:=by grind
    have hg1:1000*g<=1:=by grind
    have huu:1000*(F.u*F.u)<=F.u:=by
     have:=RR.mul_nn (x:=1-1000000000000*F.u) (y:=F.u) (by grind) (by grind)
     grind
    have hgu:1000*(g*F.u)<=F.u:=by
     have:=RR.mul_nn (x:=1-1000*g) (y:=F.u) (by grind) (by grind)
     grind
    have hguu:g*(F.u*F.u)<=F.u*F.u:=by
     have:=RR.mul_nn (x:=1-g) (y:=F.u*F.u) (by grind) nn_sq
     grind
    have hle:(1+g)*(1+7*F.u)*(1+11*F.u)-1<=(40+20*((t:RR)+2))*F.u:=by
     have e:(40+20*((t:RR)+2))*F.u=g+20*F.u:=by rw[<-hg];grind
     rw[e]
     grind
    have hge:0<=(1+g)*(1+7*F.u)*(1+11*F.u)-1:=by
     have h1:=RR.mul_nn hg0 (show 0<=F.u by grind)
     have h2:=RR.mul_nn hg0 (show 0<=F.u*F.u from nn_sq)
     have h3:0<=F.u*F.u:=nn_sq
     grind
    have h1:=sq_mono hge hle hA
    have h2:=mul_le_l (RR.nat_nn (4*Q)) h1
    have et:((t+2:Nat):RR)=(t:RR)+2:=by rw[RR.nat_add];rfl
    rw[et]
    exact Std.IsPreorder.le_trans _ _ _ h.2 h2
theorem FL.conv{m:Nat}(m1:1<=m)(m2:m<=32768){K:Tr T}{g R:RR}(p0:0<g)(q0:4*g<=1)(hR:0<=R)(H:Good F m K g R)(a b:Nat->T)(bh:Nat->CC)(θ θb:RR)(ha:∀i,i<m->F.fin (a i))(hb:∀i,i<m->F.fin (b i))(hθ:F.τ<=θ)(hθb:F.τ<=θb){lm δ:RR}(lm1:1<=lm)(δ0:0<δ)(δ1:4*δ<=1)(hbh:∀j,j<m->nsq (dft rtE m 1 bh j)<=lm*lm)(hbM:(nS m (λi=>F.val (b i))+(m:RR)*θb)*R<=F.M)(hbd:nS m (λj=>F.val (K 1 b j)-dft rtE m 1 bh j)<=(δ*lm)*(δ*lm))(hM:(nS m (λi=>F.val (a i))+(m:RR)*θ)*(64*(lm*lm)*(m:RR)*(R+(m:RR)))<=F.M):
  (∀k,k<m->F.fin (convF F.R m K a b k))/\nS m (λk=>F.val (convF F.R m K a b k)-cyc m (λi=>F.val (a i)) bh k)<=
   ((1+g)*(1+g)*(1+δ)*(1+4*F.u)*(1+3*F.u)-1)*((1+g)*(1+g)*(1+δ)*(1+4*F.u)*(1+3*F.u)-1)*(lm*lm*(nS m (λi=>F.val (a i))+(m:RR)*θ)):=by
 have u0:=F.u0
 have u1:=F.u1
 have τ0:=F.τ0
 have lt:=F.lt
 have uu2:=F.uu
 have hm1:=RR.nat_le m1
 rw[RR.nat_one] at hm1
 obtain⟨M,hMm⟩:∃M:RR,(m:RR)=M:=⟨_,rfl⟩
 obtain⟨A,hA⟩:∃A,nS m (λi=>F.val (a i))+(m:RR)*θ=A:=⟨_,rfl⟩
 obtain⟨Λ,hΛ⟩:∃Λ,lm*lm=Λ:=⟨_,rfl⟩
 rw[hA] at hM|-
 have hS:=nS_nonneg m (λi=>F.val (a i))
 rw[hMm] at hM hm1 hA hbM
 have hMθ:=RR.mul_nn (x:=M) (y:=θ) (by grind) (by grind)
 have hA0:0<=A:=by grind
 have hΛ1:1<=Λ:=by
  have:=RR.mul_nn (x:=lm-1) (y:=lm+1) (by grind) (by grind)
  grind
 rw[hΛ] at hM|-
 have hΛM:1<=Λ*M:=by
  have:=RR.mul_nn (x:=Λ-1) (y:=M) (by grind) (by grind)
  grind
 have hΛA:=RR.mul_nn (x:=Λ) (y:=A) (by grind) hA0
 have hΛMA:=RR.mul_nn (x:=Λ*M) (y:=A) (by grind) hA0
 have hΛMAe:A<=Λ*M*A:=by
  have:=RR.mul_nn (x:=Λ*M-1) (y:=A) (by grind) hA0
  grind
 have hMM:64*(Λ*M*A)*R<=F.M/\64*(Λ*M*M*A)<=F.M/\A*R<=F.M:=by
  have h1:=RR.mul_nn hΛMA hR
  have h2:=RR.mul_nn hΛMA (show 0<=M by grind)
  have h3:=mul_le_r hR hΛMAe
  refine⟨by grind,by grind,by grind⟩
 obtain⟨hM1,hM2,hM3⟩:=hMM
 obtain⟨fα,eα⟩:=H 1 (.inl rfl) a θ ha hθ (by rw[hMm,hA];exact hM3)
 rw[hMm,hA] at eα
 obtain⟨fβ,-⟩:=H 1 (.inl rfl) b θb hb hθb (by rw[hMm];exact hbM)
 obtain⟨α,hα⟩:∃α,K 1 a=α:=⟨_,rfl⟩
 obtain⟨β,hβ⟩:∃β,K 1 b=β:=⟨_,rfl⟩
 obtain⟨αh,hαh⟩:∃αh,dft rtE m 1 (λi=>F.val (a i))=αh:=⟨_,rfl⟩
 obtain⟨βh,hβh⟩:∃βh,dft rtE m 1 bh=βh:=⟨_,rfl⟩
 rw[hα,hαh] at eα
 rw[hα] at fα
 rw[hβ] at fβ
 rw[hβ,hβh] at hbd
 rw[hβh,hΛ] at hbh
 have nαh:nS m αh=M*nS m (λi=>F.val (a i)):=by rw[<-hαh,parseval (rts_E m) (λn a n1 _=>rtE_conj n n1 a) m1 (Nat.dvd_refl _) (.inl rfl),hMm]
 have gα:=grow (n:=m) (a:=αh) (b:=λk=>F.val (α k)-αh k) (S:=M) (e:=g) (A:=A) (f:=M*(M*θ)) p0 (by grind) (RR.mul_nn (by grind) hMθ) (by
  rw[nαh,<-hA]
  have e:M*nS m (λi=>F.val (a i))+M*(M*θ)=M*(nS m (λi=>F.val (a i))+M*θ):=by grind
  rw[e];exact Std.IsPreorder.le_refl _) eα
 have eα2:nS m (λk=>αh k+(F.val (α k)-αh k))=nS m λk=>F.val (α k):=nS_congr λk _=>by grind
 rw[eα2] at gα
 have hg2:(1+g)*(1+g)<=2:=by
  have:=RR.mul_nn (x:=1-4*g) (y:=9+4*g) (by grind) (by grind)
  grind
 have hδ2:(1+δ)*(1+δ)<=2:=by
  have:=RR.mul_nn (x:=1-4*δ) (y:=9+4*δ) (by grind) (by grind)
  grind
 have hδn:0<=(1+δ)*(1+δ):=nn_sq
 have hgn:0<=(1+g)*(1+g):=nn_sq
 have pβd:∀j,j<m->nsq (F.val (β j)-βh j)<=(δ*lm)*(δ*lm):=λj hj=>by
  have:=nS_term (f:=λj=>F.val (β j)-βh j) hj
  grind
 have hδl:(δ*lm)*(δ*lm)=δ*δ*Λ:=by rw[<-hΛ];grind
 have pβ:∀j,j<m->nsq (F.val (β j))<=(1+δ)*(1+δ)*Λ:=λj hj=>by
  have h:=nsq_tri (a:=βh j) (b:=F.val (β j)-βh j) (α:=1) (β:=δ) (A:=Λ) (by grind) δ0 (by have:=hbh j hj;grind) (by have:=pβd j hj;rw[hδl] at this;exact this)
  have e:βh j+(F.val (β j)-βh j)=F.val (β j):=by grind
  rw[e] at h
  exact h
 have hMA:=RR.mul_nn (x:=M) (y:=A) (by grind) hA0
 have hΛMθ:F.τ<=Λ*M*θ:=by
  have:=RR.mul_nn (x:=Λ*M-1) (y:=θ) (by grind) (by grind)
  grind
 obtain⟨p,hp⟩:∃p:Nat->T,timesF F.R α β=p:=⟨_,rfl⟩
 have pat:∀j,F.R.mul (α j) (β j)=p j:=λj=>by rw[<-hp];rfl
 obtain⟨v,hv⟩:∃v,4*F.u*(1+δ)=v:=⟨_,rfl⟩
 have sp:∀j,j<m->F.fin (p j)/\nsq (F.val (p j)-F.val (α j)*F.val (β j))<=v*v*(Λ*(nsq (F.val (α j))+M*θ)):=λj hj=>by
  have h1:=pβ j hj
  have h2:=nS_term (f:=λk=>F.val (α k)) hj
  have h3:=nsq_nonneg (F.val (α j))
  have h4:=nsq_nonneg (F.val (β j))
  have h5:nsq (F.val (α j))<=2*(M*A):=by
   have:=mul_le_r (c:=M*A) hMA hg2
   have:=RR.mul_nn (x:=M) (y:=M*θ) (by grind) hMθ
   grind
  have h6:nsq (F.val (β j))<=2*Λ:=by
   have:=mul_le_r (c:=Λ) (by grind) hδ2
   grind
  have h7:nsq (F.val (α j))*nsq (F.val (β j))<=nsq (F.val (α j))*((1+δ)*(1+δ)*Λ):=mul_le_l h3 h1
  have h8:nsq (F.val (α j))*nsq (F.val (β j))<=4*(Λ*M*A):=by
   have a1:=mul_le_r h4 h5
   have a2:=mul_le_l (c:=2*(M*A)) (by grind) h6
   grind
  have h9:4*(Λ*M*A)<=F.M:=by
   have:=RR.mul_nn (x:=Λ*M*A) (y:=M-1) hΛMA (by grind)
   grind
  obtain⟨f,e⟩:=F.mul (fα j hj) (fβ j hj) (Std.IsPreorder.le_trans _ _ _ h8 h9)
  rw[pat j] at f e
  refine⟨f,?_⟩
  have b1:=mul_le_l (c:=F.u*F.u) (by grind) h7
  have b2:=mul_le_l (c:=F.u*F.u) (by grind) hΛMθ
  have b3:0<=F.u*F.u*(nsq (F.val (α j))*((1+δ)*(1+δ)*Λ)):=RR.mul_nn (by grind) (RR.mul_nn h3 (RR.mul_nn hδn (by grind)))
  have b4:0<=F.u*F.u*(Λ*M*θ)*((1+δ)*(1+δ)-1):=RR.mul_nn (RR.mul_nn (by grind) (by grind)) (by have:=RR.mul_nn (x:=δ) (y:=δ) (by grind) (by grind);grind)
  have b5:0<=F.u*F.u*(Λ*M*θ):=RR.mul_nn (by grind) (by grind)
  have e1:v*v*(Λ*(nsq (F.val (α j))+M*θ))=16*(F.u*F.u*(nsq (F.val (α j))*((1+δ)*(1+δ)*Λ)))+16*(F.u*F.u*(Λ*M*θ)*((1+δ)*(1+δ)-1))+16*(F.u*F.u*(Λ*M*θ)):=by rw[<-hv];grind
  rw[e1]
  grind
 have np1:nS m (λj=>F.val (p j)-F.val (α j)*F.val (β j))<=(v*(1+g))*(v*(1+g))*(Λ*M*A):=by
  have h:nS m (λj=>F.val (p j)-F.val (α j)*F.val (β j))<=sumF m λj=>v*v*Λ*(nsq (F.val (α j))+M*θ):=sumR_le λj hj=>by have:=(sp j hj).2;grind
  rw[sumF_left,sumF_add,sumR_const,hMm] at h
  have h2:=mul_le_l (c:=v*v*Λ) (RR.mul_nn nn_sq (by grind)) gα
  have e:sumF m (λj=>nsq (F.val (α j)))=nS m λj=>F.val (α j):=rfl
  rw[e] at h
  grind
 have np2:nS m (λj=>F.val (α j)*(F.val (β j)-βh j))<=(δ*(1+g))*(δ*(1+g))*(Λ*M*A):=by
  have h:nS m (λj=>F.val (α j)*(F.val (β j)-βh j))<=sumF m λj=>(δ*lm)*(δ*lm)*nsq (F.val (α j)):=sumR_le λj hj=>by
   have:=mul_le_l (nsq_nonneg (F.val (α j))) (pβd j hj)
   rw[nsq_mul]
   grind
  rw[sumF_left] at h
  have e:sumF m (λj=>nsq (F.val (α j)))=nS m λj=>F.val (α j):=rfl
  rw[e] at h
  have h1:nS m (λj=>F.val (α j))<=M*((1+g)*(1+g)*A):=by
   have:=RR.mul_nn (x:=M) (y:=M*θ) (by grind) hMθ
   grind
  have h2:=mul_le_l (c:=(δ*lm)*(δ*lm)) nn_sq h1
  rw[hδl] at h h2
  have e3:(δ*(1+g))*(δ*(1+g))*(Λ*M*A)=δ*δ*Λ*(M*((1+g)*(1+g)*A)):=by grind
  rw[e3]
  exact Std.IsPreorder.le_trans _ _ _ h h2
 have np3:nS m (λj=>(F.val (α j)-αh j)*βh j)<=g*g*(Λ*M*A):=by
  have h:nS m (λj=>(F.val (α j)-αh j)*βh j)<=sumF m λj=>Λ*nsq (F.val (α j)-αh j):=sumR_le λj hj=>by
   have:=mul_le_l (nsq_nonneg (F.val (α j)-αh j)) (hbh j hj)
   rw[nsq_mul]
   grind
  rw[sumF_left] at h
  have e:sumF m (λj=>nsq (F.val (α j)-αh j))=nS m λj=>F.val (α j)-αh j:=rfl
  rw[e] at h
  have h2:=mul_le_l (c:=Λ) (by grind) eα
  grind
 have v0:0<v:=by
  have:=RR.mul_lt (a:=0) (b:=1+δ) (c:=4*F.u) (by grind) (by grind)
  grind
 have vg0:0<v*(1+g):=by
  have:=RR.mul_lt (a:=0) (b:=1+g) (c:=v) (by grind) v0
  grind
 have δg0:0<δ*(1+g):=by
  have:=RR.mul_lt (a:=0) (b:=1+g) (c:=δ) (by grind) δ0
  grind
 obtain⟨ph,hph⟩:∃ph:Nat->CC,(λj=>αh j*βh j)=ph:=⟨_,rfl⟩
 obtain⟨ep,hep⟩:∃ep,v*(1+g)+δ*(1+g)+g=ep:=⟨_,rfl⟩
 have np:nS m (λj=>F.val (p j)-ph j)<=Λ*M*(ep*ep*A):=by
  have h:=nS_tri (by grind) p0 (nS_tri vg0 δg0 np1 np2) np3
  have e:nS m (λk=>F.val (p k)-F.val (α k)*F.val (β k)+F.val (α k)*(F.val (β k)-βh k)+(F.val (α k)-αh k)*βh k)=nS m λj=>F.val (p j)-ph j:=nS_congr λj _=>by rw[<-hph];grind
  rw[e,hep] at h
  grind
 have nph:nS m ph<=Λ*(M*nS m (λi=>F.val (a i))):=by
  have h:nS m ph<=sumF m λj=>Λ*nsq (αh j):=sumR_le λj hj=>by
   have:=mul_le_l (nsq_nonneg (αh j)) (hbh j hj)
   rw[<-hph]
   dsimp only
   rw[nsq_mul]
   grind
  rw[sumF_left] at h
  have e:sumF m (λj=>nsq (αh j))=nS m αh:=rfl
  rw[e,nαh] at h
  exact h
 have ep0:0<ep:=by grind
 have hf1:0<=M*(Λ*M*θ):=RR.mul_nn (by grind) (by grind)
 have gp:=grow (n:=m) (a:=ph) (b:=λk=>F.val (p k)-ph k) (S:=Λ*M) (e:=ep) (A:=A) (f:=M*(Λ*M*θ)) ep0 (by grind) hf1 (by rw[<-hA];grind) np
 have ep2:nS m (λk=>ph k+(F.val (p k)-ph k))=nS m λk=>F.val (p k):=nS_congr λk _=>by grind
 rw[ep2] at gp
 have hep1:ep<=1:=by
  have h1:=RR.mul_nn (x:=1-4*g) (y:=δ) (by grind) (by grind)
  have h2:=RR.mul_nn (x:=1-4*δ) (y:=F.u) (by grind) (by grind)
  have h3:=RR.mul_nn (x:=1-4*g) (y:=v) (by grind) (by grind)
  grind
 have hep2:(1+ep)*(1+ep)<=4:=by
  have:=RR.mul_nn (x:=1-ep) (y:=3+ep) (by grind) (by grind)
  grind
 obtain⟨fq,eq⟩:=H (-1) (.inr rfl) p (Λ*M*θ) (λi hi=>(sp i hi).1) hΛMθ (by
  rw[hMm]
  have h1:=mul_le_r (c:=Λ*M*A) hΛMA hep2
  have h2:=mul_le_r hR (show nS m (λk=>F.val (p k))+M*(Λ*M*θ)<=4*(Λ*M*A) by grind)
  have h3:=RR.mul_nn hΛMA hR
  grind)
 rw[hMm] at eq
 obtain⟨w,hw⟩:∃w,K (-1) p=w:=⟨_,rfl⟩
 rw[hw] at fq eq
 have nq1:nS m (λi=>F.val (w i)-dft rtE m (-1) (λi=>F.val (p i)) i)<=(g*(1+ep))*(g*(1+ep))*(Λ*M*M*A):=by
  have h:=mul_le_l (c:=M*(g*g)) (RR.mul_nn (by grind) nn_sq) gp
  grind
 have nq2:nS m (λi=>dft rtE m (-1) (λi=>F.val (p i)) i-dft rtE m (-1) ph i)<=ep*ep*(Λ*M*M*A):=by
  have e:=parseval_sub (rts_E m) (λn a n1 _=>rtE_conj n n1 a) m1 (Nat.dvd_refl _) (s:=-1) (.inr rfl) (λi=>F.val (p i)) ph
  rw[hMm] at e
  rw[e]
  have h:=mul_le_l (c:=M) (by grind) np
  grind
 obtain⟨qh,hqh⟩:∃qh,dft rtE m (-1) ph=qh:=⟨_,rfl⟩
 rw[hqh] at nq2
 obtain⟨eq',heq⟩:∃eq',g*(1+ep)+ep=eq':=⟨_,rfl⟩
 have gep0:0<g*(1+ep):=by
  have:=RR.mul_lt (a:=0) (b:=1+ep) (c:=g) (by grind) p0
  grind
 have eq0:0<eq':=by grind
 have nq:nS m (λi=>F.val (w i)-qh i)<=Λ*M*M*(eq'*eq'*A):=by
  have h:=nS_tri gep0 ep0 nq1 nq2
  have e:nS m (λk=>F.val (w k)-dft rtE m (-1) (λi=>F.val (p i)) k+(dft rtE m (-1) (λi=>F.val (p i)) k-qh k))=nS m λi=>F.val (w i)-qh i:=nS_congr λj _=>by grind
  rw[e,heq] at h
  grind
 have nqh:nS m qh=M*nS m ph:=by rw[<-hqh,parseval (rts_E m) (λn a n1 _=>rtE_conj n n1 a) m1 (Nat.dvd_refl _) (.inr rfl),hMm]
 have hΛMMA:=RR.mul_nn (x:=Λ*M*A) (y:=M) hΛMA (by grind)
 have hf2:0<=M*(Λ*M*M*θ):=by
  have:=RR.mul_nn hf1 (show 0<=M by grind)
  grind
 have gq:=grow (n:=m) (a:=qh) (b:=λk=>F.val (w k)-qh k) (S:=Λ*M*M) (e:=eq') (A:=A) (f:=M*(Λ*M*M*θ)) eq0 (by have:=RR.mul_nn (x:=Λ*M) (y:=M) (by grind) (by grind);grind) hf2 (by
  rw[nqh,<-hA]
  have:=mul_le_l (c:=M) (by grind) nph
  grind) nq
 have eq2:nS m (λk=>qh k+(F.val (w k)-qh k))=nS m λk=>F.val (w k):=nS_congr λk _=>by grind
 rw[eq2] at gq
 have heq1:eq'<=2:=by
  have:=RR.mul_nn (x:=1-4*g) (y:=ep) (by grind) (by grind)
  grind
 have heq2:(1+eq')*(1+eq')<=9:=by
  have:=RR.mul_nn (x:=2-eq') (y:=4+eq') (by grind) (by grind)
  grind
 have hwM:nS m (λk=>F.val (w k))<=F.M:=by
  have h1:=mul_le_r (c:=Λ*M*A*M) hΛMMA heq2
  grind
 have so:∀k,k<m->F.fin (convF F.R m K a b k)/\nsq (CC.of M*F.val (convF F.R m K a b k)-F.val (w k))<=(3*F.u)*(3*F.u)*(nsq (F.val (w k))+Λ*M*M*θ):=λk hk=>by
  have h1:=nS_term (f:=λk=>F.val (w k)) hk
  obtain⟨f,e⟩:=F.over (fq k hk) m1 (by omega) (Std.IsPreorder.le_trans _ _ _ h1 hwM)
  have ec:convF F.R m K a b k=F.R.over (w k) m:=by rw[<-hw,<-hp,<-hα,<-hβ];rfl
  rw[ec]
  refine⟨f,?_⟩
  rw[hMm] at e
  have h3:=nsq_nonneg (F.val (w k))
  have b1:M*M*(2*(F.l*F.l))<=F.u*F.u*(Λ*M*M*θ):=by
   have c1:2*(F.l*F.l)<=F.u*F.u*θ:=by
    have:=mul_le_l (c:=F.u*F.u) (by grind) hθ
    have:=RR.mul_nn (x:=F.u*F.u) (y:=F.τ) (by grind) (by grind)
    have:=F.l0
    grind
   have c2:=mul_le_l (c:=M*M) nn_sq c1
   have c3:0<=F.u*F.u*θ*(M*M)*(Λ-1):=RR.mul_nn (RR.mul_nn (RR.mul_nn (by grind) (by grind)) nn_sq) (by grind)
   grind
  have b2:=RR.mul_nn (x:=F.u*F.u) (y:=nsq (F.val (w k))) (by grind) h3
  have b3:0<=F.u*F.u*(Λ*M*M*θ):=by
   have:=RR.mul_nn (x:=F.u*F.u) (y:=M*M*(2*(F.l*F.l))) (by grind) (RR.mul_nn nn_sq (by have:=F.l0;grind))
   have:=RR.mul_nn (x:=M*M) (y:=2*(F.l*F.l)) nn_sq (by have:=F.l0;grind)
   grind
  grind
 refine⟨λk hk=>(so k hk).1,?_⟩
 have no1:nS m (λk=>CC.of M*F.val (convF F.R m K a b k)-F.val (w k))<=(3*F.u*(1+eq'))*(3*F.u*(1+eq'))*(Λ*M*M*A):=by
  have h:nS m (λk=>CC.of M*F.val (convF F.R m K a b k)-F.val (w k))<=sumF m λk=>(3*F.u)*(3*F.u)*(nsq (F.val (w k))+Λ*M*M*θ):=sumR_le λk hk=>(so k hk).2
  rw[sumF_left,sumF_add,sumR_const,hMm] at h
  have e:sumF m (λk=>nsq (F.val (w k)))=nS m λk=>F.val (w k):=rfl
  rw[e] at h
  have h2:=mul_le_l (c:=(3*F.u)*(3*F.u)) nn_sq gq
  grind
 have ueq0:0<3*F.u*(1+eq'):=by
  have:=RR.mul_lt (a:=0) (b:=1+eq') (c:=3*F.u) (by grind) (by grind)
  grind
 have no:=nS_tri ueq0 eq0 no1 (show nS m (λi=>F.val (w i)-qh i)<=eq'*eq'*(Λ*M*M*A) by grind)
 have hcyc:∀k,k<m->CC.of M*cyc m (λi=>F.val (a i)) bh k=qh k:=λk hk=>by
  have h:=conv_cyc (homE m) m1 (Nat.dvd_refl m) (λs x j=>dft rtE m s x j) (λs hs x j _=>rfl) (λi=>F.val (a i)) bh k hk
  rw[<-h]
  have e1:convF RgE m (λs x j=>dft rtE m s x j) (λi=>F.val (a i)) bh k=RgE.over (qh k) m:=by
   rw[<-hqh,<-hph,<-hαh,<-hβh];rfl
  rw[e1]
  have h2:=(homE m).over (qh k) m m1 (Nat.dvd_refl m)
  rw[sumC_one,hMm] at h2
  have e2:CC.of M*RgE.over (qh k) m=RgE.over (qh k) m*CC.of M:=nsq_comm_mul _ _
  rw[e2]
  exact h2
 have eF:nS m (λk=>CC.of M*F.val (convF F.R m K a b k)-F.val (w k)+(F.val (w k)-qh k))=M*M*nS m λk=>F.val (convF F.R m K a b k)-cyc m (λi=>F.val (a i)) bh k:=by
  unfold nS
  rw[<-sumF_left]
  refine sumF_congr λk hk=>?_
  dsimp only
  have e:CC.of M*F.val (convF F.R m K a b k)-F.val (w k)+(F.val (w k)-qh k)=CC.of M*(F.val (convF F.R m K a b k)-cyc m (λi=>F.val (a i)) bh k):=by rw[<-hcyc k hk];grind
  rw[e,nsq_mul,nsq_of]
 rw[eF] at no
 have ef:3*F.u*(1+eq')+eq'=(1+g)*(1+g)*(1+δ)*(1+4*F.u)*(1+3*F.u)-1:=by rw[<-heq,<-hep,<-hv];grind
 rw[ef] at no
 refine mul_cancel_le (c:=M*M) ?_ ?_
 ·have:=RR.mul_lt (a:=0) (b:=M) (c:=M) (by grind) (by grind)
  grind
 ·obtain⟨X,hX⟩:∃X,(1+g)*(1+g)*(1+δ)*(1+4*F.u)*(1+3*F.u)-1=X:=⟨_,rfl⟩
  rw[hX] at no|-
  grind
end
end CG
end Go.Proofs.YtmgfaeineklccaaGreat
namespace Go.Proofs.YtmgfaeineklccaaGreat
namespace CG
section
variable {T : Type} (R : Rg T)
theorem place_lt{m k:Nat}(hk:k<m):(m-k)%m<m:=Nat.mod_lt _ (by omega)
theorem place_inj{m k l:Nat}(hk:k<m)(hl:l<m)(h:(m-k)%m=(m-l)%m):k=l:=by
 have hp:∀k,k<m->((m-k)%m=if k=0 then 0 else m-k):=λk hk=>by
  by_cases e:k=0
  ·rw[if_pos e,e,Nat.sub_zero,Nat.mod_self]
  ·rw[if_neg e,Nat.mod_eq_of_lt (by omega)]
 rw[hp k hk,hp l hl] at h
 by_cases a:k=0
 ·by_cases b:l=0
  ·omega
  ·rw[if_pos a,if_neg b] at h;omega
 ·by_cases b:l=0
  ·rw[if_neg a,if_pos b] at h;omega
  ·rw[if_neg a,if_neg b] at h;omega
theorem raderO_at{m:Nat}{pw:Nat->Nat}(P:Pws (m+1) pw)(x c:Nat->T){k:Nat}(hk:k<m):raderO R (m+1) pw x c m (pw ((m-k)%m))=R.add (x 0) (c k):=by
 unfold raderO
 exact fold_upd_at m (λk=>pw ((m-k)%m)) (λk=>R.add (x 0) (c k)) _ k hk λl hl e=>place_inj hl hk (P.inj _ _ (place_lt hl) (place_lt hk) e)
theorem raderO_zero{m:Nat}{pw:Nat->Nat}(P:Pws (m+1) pw)(x c:Nat->T):raderO R (m+1) pw x c m 0=sumT R (m+1) x:=by
 unfold raderO
 have:=fold_upd_ne m (λk=>pw ((m+1-1-k)%(m+1-1))) (λk=>R.add (x 0) (c k)) (updT (λ_=>R.zero) 0 (sumT R (m+1) x)) 0 λk hk=>by have:=P.pos _ (place_lt hk);exact λe=>by have e2:pw ((m-k)%m)=0:=e;omega
 rw[this]
 rfl
end
theorem sum_pw{KK:Type}[Lean.Grind.CommRing KK]{m:Nat}{pw:Nat->Nat}(P:Pws (m+1) pw)(f:Nat->KK):sumF (m+1) f=f 0+sumF m λk=>f (pw ((m-k)%m)):=by
 have h1:sumF (m+1) f=f 0+sumF m λj=>f (1+j):=by
  rw[Nat.add_comm,sumF_app]
  congr 1
  show 0+f 0=f 0
  grind
 rw[h1]
 congr 1
 have hperm:=sumF_perm m (λk=>pw ((m-k)%m)-1) (λj=>f (1+j)) (λk hk=>by
  have h1:1<=pw ((m-k)%m):=P.pos _ (place_lt hk)
  have h2:pw ((m-k)%m)<m+1:=P.lt _ (place_lt hk)
  omega) (λk l hk hl h=>by
  have h1:1<=pw ((m-k)%m):=P.pos _ (place_lt hk)
  have h2:1<=pw ((m-l)%m):=P.pos _ (place_lt hl)
  exact place_inj hk hl (P.inj _ _ (place_lt hk) (place_lt hl) (by omega)))
 rw[<-hperm]
 refine sumF_congr λk hk=>?_
 have h1:1<=pw ((m-k)%m):=P.pos _ (place_lt hk)
 have e:1+(pw ((m-k)%m)-1)=pw ((m-k)%m):=by omega
 rw[e]
theorem sum_pw2{KK:Type}[Lean.Grind.CommRing KK]{m:Nat}{pw:Nat->Nat}(P:Pws (m+1) pw)(f:Nat->KK):sumF (m+1) f=f 0+sumF m λk=>f (pw k):=by
 have h1:sumF (m+1) f=f 0+sumF m λj=>f (1+j):=by
  rw[Nat.add_comm,sumF_app]
  congr 1
  show 0+f 0=f 0
  grind
 rw[h1]
 congr 1
 have hperm:=sumF_perm m (λk=>pw k-1) (λj=>f (1+j)) (λk hk=>by
  have:=P.pos _ hk
  have:=P.lt _ hk
  omega) (λk l hk hl h=>by
  have h1:=P.pos _ hk
  have h2:=P.pos _ hl
  exact P.inj _ _ hk hl (by omega))
 rw[<-hperm]
 refine sumF_congr λk hk=>?_
 have:=P.pos _ hk
 have e:1+(pw k-1)=pw k:=by omega
 rw[e]
def bhE(m:Nat)(s:Int)(pw:Nat->Nat):Nat->CC:=λk=>rtE (s*((pw ((m-k)%m):Nat):Int)) (m+1)
theorem rader_exact{m:Nat}(m2:2<=m){pw:Nat->Nat}(P:Pws (m+1) pw){s:Int}(hs:s=1\/s=-1)(x:Nat->CC){k:Nat}(hk:k<m):dft rtE (m+1) s x (pw ((m-k)%m))=x 0+cyc m (λi=>x (pw i)) (bhE m s pw) k:=by
 have hN:m+1∣(m+1)*m:=Nat.dvd_mul_right _ _
 have hm:m∣(m+1)*m:=Nat.dvd_mul_left _ _
 have hlt:=P.lt _ (place_lt hk)
 have h:=rader_dft (homE ((m+1)*m)) (n:=m+1) (by omega) hN hm hs (λs x j=>dft rtE m s x j) (λs hs x j _=>rfl) P x (pw ((m-k)%m)) hlt
 rw[<-h]
 show raderO RgE (m+1) pw x (convF RgE m (λs x j=>dft rtE m s x j) (raderA pw x) (raderB RgE (m+1) s pw)) m (pw ((m-k)%m))=_
 rw[raderO_at RgE P x _ hk]
 have h2:=conv_cyc (homE m) (by omega) (Nat.dvd_refl m) (λs x j=>dft rtE m s x j) (λs hs x j _=>rfl) (raderA pw x) (raderB RgE (m+1) s pw) k hk
 show x 0+convF RgE m (λs x j=>dft rtE m s x j) (raderA pw x) (raderB RgE (m+1) s pw) k=_
 rw[h2]
 rfl
theorem gauss{m:Nat}(m2:2<=m){pw:Nat->Nat}(P:Pws (m+1) pw){s:Int}(hs:s=1\/s=-1){j:Nat}(hj:j<m):nsq (dft rtE m 1 (bhE m s pw) j)<=((m+1:Nat):RR):=by
 have m1:1<=m:=by omega
 obtain⟨a,ha⟩:∃a:Nat->CC,(λk:Nat=>rtE (-((j:Int)*(k:Nat))) m)=a:=⟨_,rfl⟩
 obtain⟨x,hx⟩:∃x:Nat->CC,foldT m (λh k=>updT h (pw k) (a k)) (λ_=>(0:CC))=x:=⟨_,rfl⟩
 have x0:x 0=0:=by
  rw[<-hx]
  exact fold_upd_ne m pw a (λ_=>(0:CC)) 0 λk hk=>by have:=P.pos _ hk;omega
 have xp:∀k,k<m->x (pw k)=a k:=λk hk=>by
  rw[<-hx]
  exact fold_upd_at m pw a (λ_=>(0:CC)) k hk λl hl e=>P.inj _ _ hl hk e
 have na:nS m a=(m:RR):=by
  have:nS m a=sumF m λ_=>(1:RR):=sumF_congr λk _=>by rw[<-ha];exact rtE_nsq m m1 _
  rw[this,sumR_const]
  grind
 have nx:nS (m+1) x=(m:RR):=by
  unfold nS
  rw[sum_pw2 P]
  have:sumF m (λk=>nsq (x (pw k)))=nS m a:=sumF_congr λk hk=>by rw[xp k hk]
  rw[this,na,x0,nsq_zero]
  grind
 have hP:=parseval (rts_E (m+1)) (λn a n1 _=>rtE_conj n n1 a) (by omega) (Nat.dvd_refl _) hs x
 rw[nx] at hP
 obtain⟨c,hc⟩:∃c:Nat->CC,cyc m a (bhE m s pw)=c:=⟨_,rfl⟩
 have nc:nS m c<=((m+1:Nat):RR)*(m:RR):=by
  rw[<-hP]
  unfold nS
  rw[sum_pw P]
  have e:sumF m (λk=>nsq (dft rtE (m+1) s x (pw ((m-k)%m))))=sumF m λk=>nsq (c k):=sumF_congr λk hk=>by
   have h:=rader_exact m2 P hs x hk
   have e2:cyc m (λi=>x (pw i)) (bhE m s pw) k=c k:=by rw[<-hc];exact sumF_congr λi hi=>by dsimp only;rw[xp i hi]
   rw[h,x0,e2]
   congr 1
   grind
  rw[e]
  have:=nsq_nonneg (dft rtE (m+1) s x 0)
  grind
 obtain⟨βh,hβh⟩:∃βh,dft rtE m 1 (bhE m s pw)=βh:=⟨_,rfl⟩
 rw[hβh]
 have hcyc:∀k,k<m->CC.of (m:RR)*c k=dft rtE m (-1) (λi=>dft rtE m 1 a i*βh i) k:=λk hk=>by
  have h:=conv_cyc (homE m) m1 (Nat.dvd_refl m) (λs x j=>dft rtE m s x j) (λs hs x j _=>rfl) a (bhE m s pw) k hk
  have e0:cyc m (λi=>(λx:CC=>x) (a i)) (λi=>(λx:CC=>x) (bhE m s pw i)) k=c k:=by rw[<-hc]
  rw[e0] at h
  rw[<-h]
  have e1:convF RgE m (λs x j=>dft rtE m s x j) a (bhE m s pw) k=RgE.over (dft rtE m (-1) (λi=>dft rtE m 1 a i*βh i) k) m:=by
   rw[<-hβh];rfl
  show CC.of (m:RR)*convF RgE m (λs x j=>dft rtE m s x j) a (bhE m s pw) k=_
  rw[e1]
  have h2:=(homE m).over (dft rtE m (-1) (λi=>dft rtE m 1 a i*βh i) k) m m1 (Nat.dvd_refl m)
  rw[sumC_one] at h2
  rw[nsq_comm_mul]
  exact h2
 have n1:(m:RR)*(m:RR)*nS m c=(m:RR)*nS m (λi=>dft rtE m 1 a i*βh i):=by
  rw[<-parseval (rts_E m) (λn a n1 _=>rtE_conj n n1 a) m1 (Nat.dvd_refl _) (s:=-1) (.inr rfl)]
  unfold nS
  rw[<-sumF_left]
  exact sumF_congr λk hk=>by rw[<-hcyc k hk,nsq_mul,nsq_of]
 have hâ:dft rtE m 1 a j=CC.of (m:RR):=by
  unfold dft
  rw[<-sumC_one m]
  refine sumF_congr λk _=>?_
  rw[<-ha]
  dsimp only
  rw[<-rtE_add m m1]
  have e:-((j:Int)*(k:Nat))+1*((j:Int)*(k:Nat))=m*0:=by omega
  rw[e]
  exact rtE_nil m m1 0
 have ht:nsq (dft rtE m 1 a j*βh j)<=nS m (λi=>dft rtE m 1 a i*βh i):=nS_term (f:=λi=>dft rtE m 1 a i*βh i) hj
 rw[hâ,nsq_mul,nsq_of] at ht
 have hm1:=RR.nat_pos m1
 have h3:=mul_le_l (c:=(m:RR)) (by grind) ht
 have h4:=mul_le_l (c:=(m:RR)*(m:RR)) nn_sq nc
 refine mul_cancel_le (c:=(m:RR)*(m:RR)*(m:RR)) ?_ ?_
 ·have:=RR.mul_lt hm1 hm1
  have h6:=RR.mul_lt (a:=0) (b:=(m:RR)*(m:RR)) (c:=(m:RR)) (by grind) hm1
  grind
 ·grind
end CG
end Go.Proofs.YtmgfaeineklccaaGreat
namespace Go.Proofs.YtmgfaeineklccaaGreat
namespace CG
section
variable {T : Type} (F : FL T)
theorem FL.sum{n:Nat}(n1:1<=n)(n2:n<=32768)(X:Nat->T)(hX:∀i,i<n->F.fin (X i)){B:RR}(hB:(n:RR)*nS n (λi=>F.val (X i))<=B)(hM:4*B<=F.M):
  F.fin (sumT F.R n X)/\nsq (F.val (sumT F.R n X)-sumF n λk=>F.val (X k))<=((2*(n:RR)+1)*F.u)*((2*(n:RR)+1)*F.u)*B:=by
 have u0:=F.u0
 have u1:=F.u1
 have hn1:=RR.nat_le n1
 have hn2:=RR.nat_le n2
 rw[RR.nat_one] at hn1
 have en2:((32768:Nat):RR)=32768:=rfl
 rw[en2] at hn2
 have hS:=nS_nonneg n (λi=>F.val (X i))
 have hB0:0<=B:=by
  have:=RR.mul_nn (x:=(n:RR)) (y:=nS n (λi=>F.val (X i))) (by grind) hS
  grind
 have key:∀m,m<=n->F.fin (foldT m (λacc k=>F.R.add acc (X k)) F.R.zero)/\nsq (F.val (foldT m (λacc k=>F.R.add acc (X k)) F.R.zero)-sumF m λk=>F.val (X k))<=((2*(m:RR)+1)*F.u)*((2*(m:RR)+1)*F.u)*B:=by
  intro m
  induction m with
  |zero=>
    intro _
    refine⟨F.zero.1,?_⟩
    show nsq (F.val F.R.zero-0)<=_
    rw[F.zero.2]
    have e:(0:CC)-0=0:=by grind
    rw[e,nsq_zero]
    exact RR.mul_nn nn_sq hB0
  |succ m ih=>
    intro hm
    obtain⟨f1,e1⟩:=ih (by omega)
    have hm1:=RR.nat_le (show m+1<=n by omega)
    have hm0:=RR.nat_nn m
    rw[RR.nat_succ] at hm1
    have hmu0:=RR.mul_nn hm0 (show 0<=F.u by grind)
    have hmu:(2*(m:RR)+2)*F.u<=1:=by
     have:=RR.mul_nn (x:=1000000-(2*(m:RR)+2)) (y:=F.u) (by grind) (by grind)
     grind
    have e3:nsq (sumF (m+1) λk=>F.val (X k))<=1*1*B:=by
     have h1:=cs_sum (m+1) λk=>F.val (X k)
     have h2:sumF (m+1) (λk=>nsq (F.val (X k)))<=nS n λi=>F.val (X i):=sumR_len (f:=λk=>nsq (F.val (X k))) (λk=>nsq_nonneg _) hm
     have h3:=mul_le_l (c:=((m+1:Nat):RR)) (RR.nat_nn _) h2
     rw[RR.nat_succ] at*
     have h4:=mul_le_r (c:=nS n λi=>F.val (X i)) hS hm1
     grind
    have e5:=nsq_tri (α:=1) (β:=(2*(m:RR)+1)*F.u) (by grind) (by grind) e3 e1
    have es:(sumF (m+1) λk=>F.val (X k))=(sumF m λk=>F.val (X k))+F.val (X m):=rfl
    have e6:(sumF (m+1) λk=>F.val (X k))+(F.val (foldT m (λacc k=>F.R.add acc (X k)) F.R.zero)-sumF m λk=>F.val (X k))=F.val (foldT m (λacc k=>F.R.add acc (X k)) F.R.zero)+F.val (X m):=by rw[es];grind
    rw[e6] at e5
    have e7:=sq_mono (a:=1+(2*(m:RR)+1)*F.u) (b:=2) (A:=B) (by grind) (by grind) hB0
    obtain⟨f3,e8⟩:=F.add f1 (hX m (by omega)) (by grind)
    refine⟨f3,?_⟩
    have e9:nsq (F.val (F.R.add (foldT m (λacc k=>F.R.add acc (X k)) F.R.zero) (X m))-(F.val (foldT m (λacc k=>F.R.add acc (X k)) F.R.zero)+F.val (X m)))<=(2*F.u)*(2*F.u)*B:=by
     have:=mul_le_l (c:=F.u*F.u) (by have:=F.uu;grind) (show _<=2*2*B from Std.IsPreorder.le_trans _ _ _ e5 e7)
     grind
    have e10:=nsq_tri (by grind) (by grind) e1 e9
    have e11:F.val (foldT m (λacc k=>F.R.add acc (X k)) F.R.zero)-(sumF m λk=>F.val (X k))+(F.val (F.R.add (foldT m (λacc k=>F.R.add acc (X k)) F.R.zero) (X m))-(F.val (foldT m (λacc k=>F.R.add acc (X k)) F.R.zero)+F.val (X m)))=F.val (foldT (m+1) (λacc k=>F.R.add acc (X k)) F.R.zero)-sumF (m+1) λk=>F.val (X k):=by
     have:foldT (m+1) (λacc k=>F.R.add acc (X k)) F.R.zero=F.R.add (foldT m (λacc k=>F.R.add acc (X k)) F.R.zero) (X m):=rfl
     rw[this,es]
     grind
    rw[e11] at e10
    rw[RR.nat_succ]
    have e12:(2*(m:RR)+1)*F.u+2*F.u=(2*((m:RR)+1)+1)*F.u:=by grind
    rw[e12] at e10
    exact e10
 exact key n (Nat.le_refl _)
theorem FL.rader{m:Nat}(m2:2<=m)(hm:m+1<=32768){pw:Nat->Nat}(P:Pws (m+1) pw){K:Tr T}{g R:RR}(p0:0<g)(q0:4*g<=1)(hR:0<=R)(H:Good F m K g R){lm ν δ:RR}(lm1:1<=lm)(hlm:((m+1:Nat):RR)<=lm*lm)(ν0:0<ν)(hν:lm*lm<=ν*ν*((m+1:Nat):RR))(δ0:0<δ)(δ1:4*δ<=1)(hδ:(m:RR)*(g*(1+3*F.u)+2*F.u)<=δ*lm)(hbR:2*(m:RR)*R<=F.M){ec:RR}(hec:(1+g)*(1+g)*(1+δ)*(1+4*F.u)*(1+3*F.u)-1=ec)(hec1:ν*ec<=1):
  Good F (m+1) (raderF F.R (m+1) pw K) (ν*ec+(2*(m:RR)+5)*F.u) (64*(lm*lm)*(m:RR)*(R+(m:RR))+8*((m:RR)+1)):=by
 intro s hs X θ hX hθ hM
 have u0:=F.u0
 have u1:=F.u1
 have τ0:=F.τ0
 have τ1:=F.τ1
 have uu2:=F.uu
 have m1:1<=m:=by omega
 have hm1:=RR.nat_le m1
 rw[RR.nat_one] at hm1
 have en:((m+1:Nat):RR)=(m:RR)+1:=RR.nat_succ m
 rw[en] at hM hlm hν|-
 obtain⟨x,hx⟩:∃x:Nat->CC,(λi=>F.val (X i))=x:=⟨_,rfl⟩
 rw[hx] at hM|-
 obtain⟨M,hMm⟩:∃M:RR,(m:RR)=M:=⟨_,rfl⟩
 rw[hMm] at hm1 hM hlm hν hδ hbR|-
 obtain⟨A,hA⟩:∃A,nS (m+1) x+(M+1)*θ=A:=⟨_,rfl⟩
 rw[hA] at hM|-
 have hS:=nS_nonneg (m+1) x
 have hMθ:=RR.mul_nn (x:=M+1) (y:=θ) (by grind) (by grind)
 have hA0:0<=A:=by grind
 have hRM:0<=64*(lm*lm)*M*(R+M):=RR.mul_nn (RR.mul_nn (by have:=nn_sq (a:=lm);grind) (by grind)) (by grind)
 have hM8:8*((M+1)*A)<=F.M/\A*(64*(lm*lm)*M*(R+M))<=F.M:=by
  have h1:=RR.mul_nn hA0 hRM
  have h2:=RR.mul_nn (x:=M+1) (y:=A) (by grind) hA0
  constructor<;>grind
 obtain⟨hM8,hMc⟩:=hM8
 obtain⟨a,ha⟩:∃a,raderA pw X=a:=⟨_,rfl⟩
 obtain⟨b,hb⟩:∃b,raderB F.R (m+1) s pw=b:=⟨_,rfl⟩
 have eva:(λi=>F.val (a i))=λi=>x (pw i):=by rw[<-ha,<-hx];rfl
 have fa:∀i,i<m->F.fin (a i):=λi hi=>by rw[<-ha];exact hX _ (P.lt _ hi)
 have na:nS m (λi=>F.val (a i))<=nS (m+1) x:=by
  rw[eva]
  unfold nS
  rw[sum_pw2 P]
  have:=nsq_nonneg (x 0)
  grind
 have sb:∀i,i<m->F.fin (b i)/\nsq (F.val (b i)-bhE m s pw i)<=4*(F.u*F.u):=λi hi=>by
  rw[<-hb]
  exact F.root (s*((pw ((m-i)%m):Nat):Int)) (n:=m+1) (by omega) (by omega)
 have nbd:nS m (λi=>F.val (b i)-bhE m s pw i)<=(2*F.u)*(2*F.u)*M:=by
  have h:nS m (λi=>F.val (b i)-bhE m s pw i)<=sumF m λ_=>4*(F.u*F.u):=sumR_le λi hi=>(sb i hi).2
  rw[sumR_const,hMm] at h
  grind
 have nbh:nS m (bhE m s pw)=M:=by
  have:nS m (bhE m s pw)=sumF m λ_=>(1:RR):=sumF_congr λk _=>rtE_nsq (m+1) (by omega) _
  rw[this,sumR_const,hMm]
  grind
 have nb:nS m (λi=>F.val (b i))<=(1+2*F.u)*(1+2*F.u)*M:=by
  have h:=nS_tri (n:=m) (f:=bhE m s pw) (g:=λi=>F.val (b i)-bhE m s pw i) (α:=1) (β:=2*F.u) (A:=M) (by grind) (by grind) (by rw[nbh];grind) nbd
  have e:nS m (λk=>bhE m s pw k+(F.val (b k)-bhE m s pw k))=nS m λi=>F.val (b i):=nS_congr λk _=>by grind
  rw[e] at h
  exact h
 have nb2:nS m (λi=>F.val (b i))+M*F.u<=(1+3*F.u)*(1+3*F.u)*M:=by
  have:=RR.mul_nn (x:=F.u) (y:=M) (by grind) (by grind)
  have:=RR.mul_nn (x:=F.u*F.u) (y:=M) (by grind) (by grind)
  grind
 have hbM:(nS m (λi=>F.val (b i))+(m:RR)*F.u)*R<=F.M:=by
  rw[hMm]
  have h3:(1+3*F.u)*(1+3*F.u)<=2:=by grind
  have h4:=mul_le_r (c:=M) (by grind) h3
  have h5:=mul_le_r hR (show nS m (λi=>F.val (b i))+M*F.u<=2*M by grind)
  grind
 obtain⟨fβ,eβ⟩:=H 1 (.inl rfl) b F.u (λi hi=>(sb i hi).1) τ1 hbM
 rw[hMm] at eβ
 have hbd:nS m (λj=>F.val (K 1 b j)-dft rtE m 1 (bhE m s pw) j)<=(δ*lm)*(δ*lm):=by
  have h1:nS m (λi=>F.val (K 1 b i)-dft rtE m 1 (λi=>F.val (b i)) i)<=(g*(1+3*F.u))*(g*(1+3*F.u))*(M*M):=by
   have:=mul_le_l (c:=M*(g*g)) (RR.mul_nn (by grind) nn_sq) nb2
   grind
  have h2:nS m (λi=>dft rtE m 1 (λi=>F.val (b i)) i-dft rtE m 1 (bhE m s pw) i)<=(2*F.u)*(2*F.u)*(M*M):=by
   have e:=parseval_sub (rts_E m) (λn a n1 _=>rtE_conj n n1 a) m1 (Nat.dvd_refl _) (s:=1) (.inl rfl) (λi=>F.val (b i)) (bhE m s pw)
   rw[hMm] at e
   rw[e]
   have:=mul_le_l (c:=M) (by grind) nbd
   grind
  have h:=nS_tri (by have:=RR.mul_lt (a:=0) (b:=1+3*F.u) (c:=g) (by grind) p0;grind) (by grind) h1 h2
  have e:nS m (λk=>F.val (K 1 b k)-dft rtE m 1 (λi=>F.val (b i)) k+(dft rtE m 1 (λi=>F.val (b i)) k-dft rtE m 1 (bhE m s pw) k))=nS m λj=>F.val (K 1 b j)-dft rtE m 1 (bhE m s pw) j:=nS_congr λk _=>by grind
  rw[e] at h
  have h3:=sq_mono (a:=M*(g*(1+3*F.u)+2*F.u)) (b:=δ*lm) (A:=1) (RR.mul_nn (by grind) (by have:=RR.mul_nn (x:=g) (y:=1+3*F.u) (by grind) (by grind);grind)) hδ (by grind)
  grind
 have hAa:nS m (λi=>F.val (a i))+(m:RR)*θ<=A:=by rw[hMm];grind
 have HC:=F.conv m1 (by omega) p0 q0 hR H a b (bhE m s pw) θ F.u fa (λi hi=>(sb i hi).1) hθ τ1 lm1 δ0 δ1 (λj hj=>by
  have h:=gauss m2 P hs hj
  rw[en,hMm] at h
  grind) hbM hbd (by
  rw[hMm]
  have:=mul_le_r hRM (show nS m (λi=>F.val (a i))+M*θ<=A by rw[<-hMm];exact hAa)
  grind)
 rw[hec] at HC
 obtain⟨fc,nc⟩:=HC
 obtain⟨c,hc⟩:∃c,convF F.R m K a b=c:=⟨_,rfl⟩
 rw[hc] at fc nc
 obtain⟨ch,hch⟩:∃ch:Nat->CC,cyc m (λi=>F.val (a i)) (bhE m s pw)=ch:=⟨_,rfl⟩
 have ec0:0<ec:=by
  have h1:=RR.mul_nn (x:=g) (y:=δ) (by grind) (by grind)
  have h2:0<=g*g:=nn_sq
  have h3:1+g<=(1+g)*(1+g)*(1+δ):=by
   have:=RR.mul_nn h2 (show 0<=δ by grind)
   grind
  have h4:=mul_le_r (c:=(1+4*F.u)*(1+3*F.u)) (RR.mul_nn (by grind) (by grind)) h3
  have h5:=RR.mul_nn (x:=g) (y:=(1+4*F.u)*(1+3*F.u)-1) (by grind) (by grind)
  grind
 have νe0:0<ν*ec:=by
  have:=RR.mul_lt ec0 ν0
  grind
 obtain⟨B,hB⟩:∃B,(M+1)*A=B:=⟨_,rfl⟩
 rw[hB] at hM8
 have hB0:0<=B:=by have:=RR.mul_nn (x:=M+1) (y:=A) (by grind) hA0;grind
 have nc2:nS m (λk=>F.val (c k)-ch k)<=(ν*ec)*(ν*ec)*B:=by
  have e:nS m (λk=>F.val (c k)-cyc m (λi=>F.val (a i)) (bhE m s pw) k)=nS m λk=>F.val (c k)-ch k:=by rw[hch]
  rw[e] at nc
  have h1:=mul_le_r hA0 hν
  have h2:=mul_le_l (c:=lm*lm) nn_sq hAa
  have h3:=mul_le_l (c:=ec*ec) nn_sq (Std.IsPreorder.le_trans _ _ _ h2 h1)
  have e2:(ν*ec)*(ν*ec)*B=ec*ec*(ν*ν*(M+1)*A):=by rw[<-hB];grind
  rw[e2]
  exact Std.IsPreorder.le_trans _ _ _ nc h3
 have hexact:∀k,k<m->dft rtE (m+1) s x (pw ((m-k)%m))=x 0+ch k:=λk hk=>by
  rw[rader_exact m2 P hs x hk,<-hch,eva]
 have hex0:dft rtE (m+1) s x 0=sumF (m+1) x:=by
  unfold dft
  refine sumF_congr λk _=>?_
  have e:s*(((0:Nat):Int)*(k:Int))=(m+1:Nat)*0:=by simp
  rw[e,rtE_nil (m+1) (by omega) 0]
  grind
 have hpars:nS (m+1) (dft rtE (m+1) s x)<=B:=by
  rw[parseval (rts_E (m+1)) (λn a n1 _=>rtE_conj n n1 a) (by omega) (Nat.dvd_refl _) hs,en,hMm,<-hB]
  exact mul_le_l (by grind) (by grind)
 have hsumd:sumF m (λk=>nsq (x 0+ch k))<=B:=by
  have h:nS (m+1) (dft rtE (m+1) s x)=nsq (dft rtE (m+1) s x 0)+sumF m λk=>nsq (dft rtE (m+1) s x (pw ((m-k)%m))):=sum_pw P λk=>nsq (dft rtE (m+1) s x k)
  have e:sumF m (λk=>nsq (dft rtE (m+1) s x (pw ((m-k)%m))))=sumF m λk=>nsq (x 0+ch k):=sumF_congr λk hk=>by rw[hexact k hk]
  rw[e] at h
  have:=nsq_nonneg (dft rtE (m+1) s x 0)
  grind
 have nxc:nS m (λk=>x 0+F.val (c k))<=4*B:=by
  have h:=nS_tri (n:=m) (f:=λk=>x 0+ch k) (g:=λk=>F.val (c k)-ch k) (α:=1) (β:=ν*ec) (A:=B) (by grind) νe0 (by show sumF m (λk=>nsq (x 0+ch k))<=1*1*B;grind) nc2
  have e:nS m (λk=>x 0+ch k+(F.val (c k)-ch k))=nS m λk=>x 0+F.val (c k):=nS_congr λk _=>by grind
  rw[e] at h
  have h2:=sq_mono (a:=1+ν*ec) (b:=2) (A:=B) (by grind) (by grind) hB0
  grind
 have ex0:F.val (X 0)=x 0:=by rw[<-hx]
 have so:∀k,k<m->F.fin (F.R.add (X 0) (c k))/\nsq (F.val (F.R.add (X 0) (c k))-(x 0+F.val (c k)))<=F.u*F.u*nsq (x 0+F.val (c k)):=λk hk=>by
  have h1:nsq (x 0+F.val (c k))<=nS m λk=>x 0+F.val (c k):=nS_term (f:=λk=>x 0+F.val (c k)) hk
  have:=F.add (hX 0 (by omega)) (fc k hk) (by rw[ex0];grind)
  rw[ex0] at this
  exact this
 have hsum:=F.sum (n:=m+1) (by omega) hm X hX (B:=B) (by
  rw[hx,en,hMm,<-hB]
  exact mul_le_l (by grind) (by grind)) (by grind)
 rw[en,hMm] at hsum
 have esx:(sumF (m+1) λk=>F.val (X k))=sumF (m+1) x:=by rw[hx]
 rw[esx] at hsum
 obtain⟨o,ho⟩:∃o,raderF F.R (m+1) pw K s X=o:=⟨_,rfl⟩
 have o0:o 0=sumT F.R (m+1) X:=by
  rw[<-ho]
  exact raderO_zero F.R P X _
 have ok:∀k,k<m->o (pw ((m-k)%m))=F.R.add (X 0) (c k):=λk hk=>by
  rw[<-ho,<-hc,<-ha,<-hb]
  exact raderO_at F.R P X _ hk
 rw[ho]
 refine⟨λy hy=>?_,?_⟩
 ·by_cases hy0:y=0
  ·rw[hy0,o0];exact hsum.1
  ·obtain⟨t,ht,hty⟩:∃t,t<m/\pw ((m-t)%m)-1=y-1:=surj_of (n:=m) (s:=λk=>pw ((m-k)%m)-1) (y:=y-1) (λk hk=>by
     have h1:1<=pw ((m-k)%m):=P.pos _ (place_lt hk)
     have h2:pw ((m-k)%m)<m+1:=P.lt _ (place_lt hk)
     omega) (λk l hk hl e=>by
     have h1:1<=pw ((m-k)%m):=P.pos _ (place_lt hk)
     have h2:1<=pw ((m-l)%m):=P.pos _ (place_lt hl)
     exact place_inj hk hl (P.inj _ _ (place_lt hk) (place_lt hl) (by omega))) (by omega)
   have h1:1<=pw ((m-t)%m):=P.pos _ (place_lt ht)
   have e:y=pw ((m-t)%m):=by omega
   rw[e,ok t ht]
   exact(so t ht).1
 obtain⟨v,hv⟩:∃v,(2*(M+1)+1)*F.u=v:=⟨_,rfl⟩
 rw[hv] at hsum
 have v0:0<v:=by
  have:=RR.mul_lt (a:=0) (b:=2*(M+1)+1) (c:=F.u) (by grind) u0
  grind
 have ρ2:nS m (λk=>F.val (F.R.add (X 0) (c k))-(x 0+F.val (c k)))<=(2*F.u)*(2*F.u)*B:=by
  have h:nS m (λk=>F.val (F.R.add (X 0) (c k))-(x 0+F.val (c k)))<=sumF m λk=>F.u*F.u*nsq (x 0+F.val (c k)):=sumR_le λk hk=>(so k hk).2
  rw[sumF_left] at h
  have e:sumF m (λk=>nsq (x 0+F.val (c k)))=nS m λk=>x 0+F.val (c k):=rfl
  rw[e] at h
  have:=mul_le_l (c:=F.u*F.u) (by grind) nxc
  grind
 have ρ3:nS m (λk=>F.val (F.R.add (X 0) (c k))-(x 0+ch k))<=(2*F.u+ν*ec)*(2*F.u+ν*ec)*B:=by
  have h:=nS_tri (by grind) νe0 ρ2 nc2
  have e:nS m (λk=>F.val (F.R.add (X 0) (c k))-(x 0+F.val (c k))+(F.val (c k)-ch k))=nS m λk=>F.val (F.R.add (X 0) (c k))-(x 0+ch k):=nS_congr λk _=>by grind
  rw[e] at h
  exact h
 have tot:nS (m+1) (λi=>F.val (o i)-dft rtE (m+1) s x i)=nsq (F.val (sumT F.R (m+1) X)-sumF (m+1) x)+nS m λk=>F.val (F.R.add (X 0) (c k))-(x 0+ch k):=by
  have h:nS (m+1) (λi=>F.val (o i)-dft rtE (m+1) s x i)=nsq (F.val (o 0)-dft rtE (m+1) s x 0)+sumF m λk=>nsq (F.val (o (pw ((m-k)%m)))-dft rtE (m+1) s x (pw ((m-k)%m))):=sum_pw P λk=>nsq (F.val (o k)-dft rtE (m+1) s x k)
  rw[h,o0,hex0]
  congr 1
  exact sumF_congr λk hk=>by rw[ok k hk,hexact k hk]
 rw[tot]
 have h1:=hsum.2
 have h2:v*v*B+(2*F.u+ν*ec)*(2*F.u+ν*ec)*B<=(v+(2*F.u+ν*ec))*(v+(2*F.u+ν*ec))*B:=by
  have:=RR.mul_nn (RR.mul_nn (x:=v) (y:=2*F.u+ν*ec) (by grind) (by grind)) hB0
  grind
 have e:v+(2*F.u+ν*ec)=ν*ec+(2*M+5)*F.u:=by rw[<-hv];grind
 rw[e] at h2
 rw[<-hB] at h1 h2 ρ3
 obtain⟨gg,hgg⟩:∃gg,ν*ec+(2*M+5)*F.u=gg:=⟨_,rfl⟩
 rw[hgg] at h2|-
 grind
end
end CG
end Go.Proofs.YtmgfaeineklccaaGreat
namespace Go.Proofs.YtmgfaeineklccaaGreat
namespace CG
section
variable {T : Type} (F : FL T)
def FL.up(t:RR)(h1:F.τ<=t)(h2:t<=F.u)(h3:1000*t<=F.M):FL T:=
 {F with τ:=t,τ0:=by have:=F.τ0;grind,τ1:=h2,lt:=by have:=F.lt;have:=mul_le_l (c:=F.u*F.u) nn_sq h1;grind,M1:=h3}
theorem Good.up{n:Nat}{K:Tr T}{g R t:RR}{h1:F.τ<=t}{h2:t<=F.u}{h3:1000*t<=F.M}(h:Good F n K g R):Good (F.up t h1 h2 h3) n K g R:=λs hs X θ hX hθ hM=>h s hs X θ hX (Std.IsPreorder.le_trans _ _ _ h1 hθ) hM
end
theorem nS_upd(m:Nat)(h:Nat->CC)(k:Nat)(v:CC):nS m (updT h k v)<=nS m h+nsq v:=by
 induction m with
 |zero=>
   unfold nS
   rw[sumF_nil,sumF_nil]
   have:=nsq_nonneg v
   grind
 |succ m ih=>
   have e:∀f:Nat->CC,nS (m+1) f=nS m f+nsq (f m):=λf=>rfl
   rw[e,e]
   by_cases hk:m=k
   ·subst hk
    have e1:nS m (updT h m v)=nS m h:=nS_congr λi hi=>by unfold updT;rw[if_neg (by omega)]
    have e2:updT h m v m=v:=by unfold updT;rw[if_pos rfl]
    have:=nsq_nonneg (h m)
    rw[e1,e2]
    grind
   ·have e2:updT h k v m=h m:=by unfold updT;rw[if_neg hk]
    rw[e2]
    grind
theorem cyc_sub(m:Nat)(a b c:Nat->CC)(k:Nat):cyc m (λi=>a i-b i) c k=cyc m a c k-cyc m b c k:=by
 unfold cyc
 have e:∀i,(a i-b i)*c ((k+m-i)%m)=a i*c ((k+m-i)%m)+(-1)*(b i*c ((k+m-i)%m)):=λi=>by grind
 rw[sumF_congr λi _=>e i,sumF_add,sumF_left]
 grind
theorem cyc_len{m:Nat}(m1:1<=m)(d bh:Nat->CC){Λ:RR}(hΛ:∀j,j<m->nsq (dft rtE m 1 bh j)<=Λ):nS m (cyc m d bh)<=Λ*nS m d:=by
 have hcyc:∀k,k<m->CC.of (m:RR)*cyc m d bh k=dft rtE m (-1) (λi=>dft rtE m 1 d i*dft rtE m 1 bh i) k:=λk hk=>by
  have h:=conv_cyc (homE m) m1 (Nat.dvd_refl m) (λs x j=>dft rtE m s x j) (λs hs x j _=>rfl) d bh k hk
  have e0:cyc m (λi=>(λx:CC=>x) (d i)) (λi=>(λx:CC=>x) (bh i)) k=cyc m d bh k:=rfl
  rw[e0] at h
  rw[<-h]
  have e1:convF RgE m (λs x j=>dft rtE m s x j) d bh k=RgE.over (dft rtE m (-1) (λi=>dft rtE m 1 d i*dft rtE m 1 bh i) k) m:=rfl
  show CC.of (m:RR)*convF RgE m (λs x j=>dft rtE m s x j) d bh k=_
  rw[e1]
  have h2:=(homE m).over (dft rtE m (-1) (λi=>dft rtE m 1 d i*dft rtE m 1 bh i) k) m m1 (Nat.dvd_refl m)
  rw[sumC_one] at h2
  rw[nsq_comm_mul]
  exact h2
 have n1:(m:RR)*(m:RR)*nS m (cyc m d bh)=(m:RR)*nS m (λi=>dft rtE m 1 d i*dft rtE m 1 bh i):=by
  rw[<-parseval (rts_E m) (λn a n1 _=>rtE_conj n n1 a) m1 (Nat.dvd_refl _) (s:=-1) (.inr rfl)]
  unfold nS
  rw[<-sumF_left]
  exact sumF_congr λk hk=>by rw[<-hcyc k hk,nsq_mul,nsq_of]
 have n2:nS m (λi=>dft rtE m 1 d i*dft rtE m 1 bh i)<=Λ*((m:RR)*nS m d):=by
  rw[<-parseval (rts_E m) (λn a n1 _=>rtE_conj n n1 a) m1 (Nat.dvd_refl _) (s:=1) (.inl rfl)]
  unfold nS
  rw[<-sumF_left]
  exact sumR_le λj hj=>by
   rw[nsq_mul]
   have:=mul_le_l (nsq_nonneg (dft rtE m 1 d j)) (hΛ j hj)
   grind
 have hm1:=RR.nat_pos m1
 refine mul_cancel_le (c:=(m:RR)*(m:RR)) ?_ ?_
 ·have:=RR.mul_lt hm1 hm1
  grind
 ·have:=mul_le_l (c:=(m:RR)) (by grind) n2
  grind
section
variable {T : Type} (F : FL T)
theorem FL.chirp{n m:Nat}(n1:1<=n)(n2:n<=32768)(m1:1<=m)(s:Int):∀j,(∀i,F.fin (blueB F.R n m s j i))/\nS m (blueB RgE n m s j)<=2*(j:RR)/\nS m (λi=>F.val (blueB F.R n m s j i)-blueB RgE n m s j i)<=2*(j:RR)*(4*(F.u*F.u)):=by
 intro j
 induction j with
 |zero=>
   have h0:((0:Nat):RR)=0:=rfl
   refine⟨λi=>F.zero.1,?_,?_⟩
   ·have:nS m (blueB RgE n m s 0)=sumF m λ_=>(0:RR):=sumF_congr λk _=>by show nsq (0:CC)=0;exact nsq_zero
    rw[this,sumF_zero,h0]
    grind
   ·have:nS m (λi=>F.val (blueB F.R n m s 0 i)-blueB RgE n m s 0 i)=sumF m λ_=>(0:RR):=sumF_congr λk _=>by
      show nsq (F.val F.R.zero-(0:CC))=0
      rw[F.zero.2]
      have e:(0:CC)-0=0:=by grind
      rw[e,nsq_zero]
    rw[this,sumF_zero,h0]
    grind
 |succ j ih=>
   obtain⟨h1,h2,h3⟩:=ih
   obtain⟨fr,er⟩:=F.root (s*(-((sqr n j:Nat):Int))) (n:=2*n) (by omega) (by omega)
   have eB:blueB F.R n m s (j+1)=updT (updT (blueB F.R n m s j) j (F.R.root (s*(-((sqr n j:Nat):Int))) ((2*n:Nat):Int))) ((m-j)%m) (F.R.root (s*(-((sqr n j:Nat):Int))) ((2*n:Nat):Int)):=rfl
   have eE:blueB RgE n m s (j+1)=updT (updT (blueB RgE n m s j) j (rtE (s*(-((sqr n j:Nat):Int))) (2*n))) ((m-j)%m) (rtE (s*(-((sqr n j:Nat):Int))) (2*n)):=rfl
   have hn:=rtE_nsq (2*n) (by omega) (s*(-((sqr n j:Nat):Int)))
   refine⟨λi=>?_,?_,?_⟩
   ·rw[eB]
    unfold updT
    split
    ·exact fr
    ·split
     ·exact fr
     ·exact h1 i
   ·rw[eE,RR.nat_succ]
    have a1:=nS_upd m (updT (blueB RgE n m s j) j (rtE (s*(-((sqr n j:Nat):Int))) (2*n))) ((m-j)%m) (rtE (s*(-((sqr n j:Nat):Int))) (2*n))
    have a2:=nS_upd m (blueB RgE n m s j) j (rtE (s*(-((sqr n j:Nat):Int))) (2*n))
    rw[hn] at a1 a2
    grind
   ·obtain⟨e,he⟩:∃e,F.val (F.R.root (s*(-((sqr n j:Nat):Int))) ((2*n:Nat):Int))-rtE (s*(-((sqr n j:Nat):Int))) (2*n)=e:=⟨_,rfl⟩
    rw[he] at er
    have eD:(λi=>F.val (blueB F.R n m s (j+1) i)-blueB RgE n m s (j+1) i)=updT (updT (λi=>F.val (blueB F.R n m s j i)-blueB RgE n m s j i) j e) ((m-j)%m) e:=by
     funext i
     rw[eB,eE,<-he]
     unfold updT
     by_cases a:i=(m-j)%m
     ·rw[if_pos a,if_pos a,if_pos a]
     ·rw[if_neg a,if_neg a,if_neg a]
      by_cases b:i=j
      ·rw[if_pos b,if_pos b,if_pos b]
      ·rw[if_neg b,if_neg b,if_neg b]
    rw[eD,RR.nat_succ]
    have a1:=nS_upd m (updT (λi=>F.val (blueB F.R n m s j i)-blueB RgE n m s j i) j e) ((m-j)%m) e
    have a2:=nS_upd m (λi=>F.val (blueB F.R n m s j i)-blueB RgE n m s j i) j e
    grind
theorem nS_part(n m:Nat)(hnm:n<=m)(f:Nat->CC)(h0:∀k,n<=k->k<m->f k=0):nS m f=nS n f:=sumF_part n m hnm (λk=>nsq (f k)) λk h1 h2=>by
 show nsq (f k)=0
 rw[h0 k h1 h2,nsq_zero]
theorem FL.blue{n m:Nat}(n1:1<=n)(n2:n<=32768)(hnm:2*n-1<=m)(m2:m<=32768){K:Tr T}{g R:RR}(p0:0<g)(q0:16*g<=1)(hR:0<=R)(H:Good F m K g R){lm ν:RR}(lm1:1<=lm)(hlm:2*(n:RR)*(m:RR)<=lm*lm)(ν0:0<ν)(hν:lm*lm<=ν*ν*(n:RR))(hbR:3*(n:RR)*R<=F.M){ec:RR}(hec:(1+g)*(1+g)*(1+(2*g+2*F.u))*(1+4*F.u)*(1+3*F.u)-1=ec)(h1t:F.τ<=65536*F.τ)(h2t:65536*F.τ<=F.u)(h3t:1000*(65536*F.τ)<=F.M):
  Good (F.up (65536*F.τ) h1t h2t h3t) n (blueF F.R n m K) (ν*((1+ec)*(1+7*F.u)*(1+7*F.u)-1)) (128*(lm*lm)*(m:RR)*(R+(m:RR))):=by
 intro s hs X θ hX hθ hM
 have hθ':65536*F.τ<=θ:=hθ
 have hX':∀i,i<n->F.fin (X i):=hX
 show(∀i,i<n->F.fin (blueF F.R n m K s X i))/\nS n (λi=>F.val (blueF F.R n m K s X i)-dft rtE n s (λi=>F.val (X i)) i)<=(n:RR)*((ν*((1+ec)*(1+7*F.u)*(1+7*F.u)-1))*(ν*((1+ec)*(1+7*F.u)*(1+7*F.u)-1))*(nS n (λi=>F.val (X i))+(n:RR)*θ))
 have hM':(nS n (λi=>F.val (X i))+(n:RR)*θ)*(128*(lm*lm)*(m:RR)*(R+(m:RR)))<=F.M:=hM
 clear hM hθ hX
 have u0:=F.u0
 have u1:=F.u1
 have τ0:=F.τ0
 have τ1:=F.τ1
 have uu2:=F.uu
 have m1:1<=m:=by omega
 have hm1:=RR.nat_le m1
 have hn1:=RR.nat_le n1
 have hm2:=RR.nat_le m2
 rw[RR.nat_one] at hm1 hn1
 have em2:((32768:Nat):RR)=32768:=rfl
 rw[em2] at hm2
 obtain⟨x,hx⟩:∃x:Nat->CC,(λi=>F.val (X i))=x:=⟨_,rfl⟩
 rw[hx] at hM'|-
 have evx:∀i,F.val (X i)=x i:=λi=>by rw[<-hx]
 obtain⟨A,hA⟩:∃A,nS n x+(n:RR)*θ=A:=⟨_,rfl⟩
 rw[hA] at hM'|-
 have hS:=nS_nonneg n x
 have hnθ:=RR.mul_nn (x:=(n:RR)) (y:=θ) (by grind) (by grind)
 have hA0:0<=A:=by grind
 have hΛ1:1<=lm*lm:=by
  have:=RR.mul_nn (x:=lm-1) (y:=lm+1) (by grind) (by grind)
  grind
 obtain⟨Λ,hΛ⟩:∃Λ,lm*lm=Λ:=⟨_,rfl⟩
 have hΛm:1<=Λ*(m:RR):=by
  have:=RR.mul_nn (x:=Λ-1) (y:=(m:RR)) (by grind) (by grind)
  grind
 have hΛA:=RR.mul_nn (x:=Λ) (y:=A) (by grind) hA0
 have hbig:128*(Λ*A)<=F.M/\0<=64*(lm*lm)*(m:RR)*(R+(m:RR)):=by
  have h1:=RR.mul_nn (RR.mul_nn hΛA (show 0<=(m:RR) by grind)) (show 0<=R by grind)
  have h2:=RR.mul_nn hΛA (RR.mul_nn (x:=(m:RR)-1) (y:=(m:RR)+1) (by grind) (by grind))
  have h3:A*(128*(lm*lm)*(m:RR)*(R+(m:RR)))=128*(Λ*A*(m:RR)*R)+128*(Λ*A*((m:RR)*(m:RR))):=by rw[hΛ];grind
  rw[h3] at hM'
  refine⟨by grind,RR.mul_nn (RR.mul_nn (by grind) (by grind)) (by grind)⟩
 obtain⟨hbig,hRM⟩:=hbig
 have hAΛ:A<=Λ*A:=by
  have:=RR.mul_nn (x:=Λ-1) (y:=A) (by grind) hA0
  grind
 obtain⟨a,ha⟩:∃a,blueA F.R n s X n=a:=⟨_,rfl⟩
 obtain⟨ah,hah⟩:∃ah,blueA RgE n s x n=ah:=⟨_,rfl⟩
 obtain⟨w,hw⟩:∃w:Nat->Int,(λk=>s*((sqr n k:Nat):Int))=w:=⟨_,rfl⟩
 have n2':2*n<=65536:=by omega
 have aat:∀k,k<n->a k=F.R.mul (X k) (F.R.root (w k) ((2*n:Nat):Int)):=λk hk=>by rw[<-ha,<-hw];unfold blueA;rw[if_pos hk];rfl
 have ahat:∀k,k<n->ah k=x k*rtE (w k) (2*n):=λk hk=>by rw[<-hah,<-hw];unfold blueA;rw[if_pos hk];rfl
 have aout:∀k,n<=k->a k=F.R.zero:=λk hk=>by rw[<-ha];unfold blueA;rw[if_neg (by omega)]
 have ahout:∀k,n<=k->ah k=0:=λk hk=>by rw[<-hah];unfold blueA;rw[if_neg (by omega)];rfl
 have hnmle:n<=m:=by omega
 have sa:∀k,k<n->F.fin (a k)/\nsq (F.val (a k)-ah k)<=(7*F.u)*(7*F.u)*(nsq (x k)+θ):=λk hk=>by
  have h1:nsq (x k)<=nS n x:=nS_term (f:=x) hk
  have h2:=nsq_nonneg (x k)
  have h3:θ<=(n:RR)*θ:=by
   have:=RR.mul_nn (x:=(n:RR)-1) (y:=θ) (by grind) (by grind)
   grind
  have:=F.tw (hX' k hk) (w k) (n:=2*n) (by omega) n2' (Q:=nsq (x k)+θ) (by rw[evx];grind) (by grind) (by grind)
  rw[evx] at this
  rw[aat k hk,ahat k hk]
  exact this
 have fa:∀k,k<m->F.fin (a k):=λk hk=>by
  by_cases h:k<n
  ·exact(sa k h).1
  ·rw[aout k (by omega)];exact F.zero.1
 have nad:nS m (λk=>F.val (a k)-ah k)<=(7*F.u)*(7*F.u)*A:=by
  rw[nS_part n m hnmle _ λk h1 h2=>by rw[aout k h1,ahout k h1,F.zero.2];grind]
  have h:nS n (λk=>F.val (a k)-ah k)<=sumF n λk=>(7*F.u)*(7*F.u)*(nsq (x k)+θ):=sumR_le λk hk=>(sa k hk).2
  rw[sumF_left,sumF_add,sumR_const] at h
  have e:sumF n (λk=>nsq (x k))=nS n x:=rfl
  rw[e,hA] at h
  exact h
 have nah:nS m ah=nS n x:=by
  rw[nS_part n m hnmle _ λk h1 h2=>ahout k h1]
  exact sumF_congr λk hk=>by rw[ahat k hk,nsq_mul,rtE_nsq (2*n) (by omega)];grind
 have ga:=grow (n:=m) (a:=ah) (b:=λk=>F.val (a k)-ah k) (S:=1) (e:=7*F.u) (A:=A) (f:=(n:RR)*θ) (by grind) (by grind) hnθ (by rw[nah];grind) (by grind)
 have ea:nS m (λk=>ah k+(F.val (a k)-ah k))=nS m λk=>F.val (a k):=nS_congr λk _=>by grind
 rw[ea] at ga
 obtain⟨θ1,hθ1,hθ1τ⟩:∃θ1:RR,(m:RR)*θ1=(n:RR)*θ/\F.τ<=θ1:=by
  have hmR:(0:Rat)<(m:Rat):=Rat.natCast_pos.2 m1
  have ei:(m:RR)*RR.of ((m:Rat)⁻¹)=1:=by
   show RR.of ((m:Rat)*(m:Rat)⁻¹)=RR.of ((1:Nat):Rat)
   congr 1
   exact Rat.mul_inv_cancel _ (by grind)
  have hi0:(0:RR)<=RR.of ((m:Rat)⁻¹):=RR.of_le.2 (by
   have:=Rat.inv_pos.2 hmR
   show((0:Nat):Rat)<=(m:Rat)⁻¹
   have z:((0:Nat):Rat)=0:=rfl
   grind)
  refine⟨RR.of ((m:Rat)⁻¹)*((n:RR)*θ),by rw[show(m:RR)*(RR.of ((m:Rat)⁻¹)*((n:RR)*θ))=(m:RR)*RR.of ((m:Rat)⁻¹)*((n:RR)*θ) by grind,ei];grind,?_⟩
  refine mul_cancel_le (c:=(m:RR)) (by grind) ?_
  have e:(m:RR)*(RR.of ((m:Rat)⁻¹)*((n:RR)*θ))=(n:RR)*θ:=by rw[show(m:RR)*(RR.of ((m:Rat)⁻¹)*((n:RR)*θ))=(m:RR)*RR.of ((m:Rat)⁻¹)*((n:RR)*θ) by grind,ei];grind
  rw[e]
  have h1:=RR.mul_nn (x:=(n:RR)-1) (y:=θ) (by grind) (by grind)
  have h2:=RR.mul_nn (x:=32768-(m:RR)) (y:=F.τ) (by grind) (by grind)
  grind
 have hAa:nS m (λi=>F.val (a i))+(m:RR)*θ1<=(1+7*F.u)*(1+7*F.u)*A:=by rw[hθ1];grind
 have hu7:(1+7*F.u)*(1+7*F.u)<=2:=by grind
 obtain⟨fb,nbh,nbd⟩:=F.chirp n1 n2 m1 s n (m:=m)
 obtain⟨b,hb⟩:∃b,blueB F.R n m s n=b:=⟨_,rfl⟩
 obtain⟨bh,hbh⟩:∃bh,blueB RgE n m s n=bh:=⟨_,rfl⟩
 rw[hb] at fb nbd
 rw[hbh] at nbh nbd
 have nb:nS m (λi=>F.val (b i))<=(1+2*F.u)*(1+2*F.u)*(2*(n:RR)):=by
  have h:=nS_tri (n:=m) (f:=bh) (g:=λi=>F.val (b i)-bh i) (α:=1) (β:=2*F.u) (A:=2*(n:RR)) (by grind) (by grind) (by grind) (by grind)
  have e:nS m (λk=>bh k+(F.val (b k)-bh k))=nS m λi=>F.val (b i):=nS_congr λk _=>by grind
  rw[e] at h
  exact h
 have nb2:nS m (λi=>F.val (b i))+(m:RR)*F.u<=3*(n:RR):=by
  have h1:=RR.mul_nn (x:=32768-(m:RR)) (y:=F.u) (by grind) (by grind)
  have h2:1000*((1+2*F.u)*(1+2*F.u))<=1001:=by grind
  have h3:=mul_le_r (c:=2*(n:RR)) (by grind) h2
  grind
 have hbM:(nS m (λi=>F.val (b i))+(m:RR)*F.u)*R<=F.M:=by
  have:=mul_le_r hR nb2
  grind
 have hβ:∀j,j<m->nsq (dft rtE m 1 bh j)<=Λ:=λj hj=>by
  have h:=nS_term (f:=dft rtE m 1 bh) hj
  rw[parseval (rts_E m) (λn a n1 _=>rtE_conj n n1 a) m1 (Nat.dvd_refl _) (.inl rfl)] at h
  have:=mul_le_l (c:=(m:RR)) (by grind) nbh
  grind
 obtain⟨-,eβ⟩:=H 1 (.inl rfl) b F.u (λi hi=>fb i) τ1 hbM
 have hbd:nS m (λj=>F.val (K 1 b j)-dft rtE m 1 bh j)<=((2*g+2*F.u)*lm)*((2*g+2*F.u)*lm):=by
  have h1:nS m (λi=>F.val (K 1 b i)-dft rtE m 1 (λi=>F.val (b i)) i)<=(2*g)*(2*g)*(2*(n:RR)*(m:RR)):=by
   have h2:=mul_le_l (c:=(m:RR)*(g*g)) (RR.mul_nn (by grind) nn_sq) nb2
   have h3:0<=(m:RR)*(g*g)*(n:RR):=RR.mul_nn (RR.mul_nn (by grind) nn_sq) (by grind)
   grind
  have h2:nS m (λi=>dft rtE m 1 (λi=>F.val (b i)) i-dft rtE m 1 bh i)<=(2*F.u)*(2*F.u)*(2*(n:RR)*(m:RR)):=by
   have e:=parseval_sub (rts_E m) (λn a n1 _=>rtE_conj n n1 a) m1 (Nat.dvd_refl _) (s:=1) (.inl rfl) (λi=>F.val (b i)) bh
   rw[e]
   have:=mul_le_l (c:=(m:RR)) (by grind) nbd
   grind
  have h:=nS_tri (by grind) (by grind) h1 h2
  have e:nS m (λk=>F.val (K 1 b k)-dft rtE m 1 (λi=>F.val (b i)) k+(dft rtE m 1 (λi=>F.val (b i)) k-dft rtE m 1 bh k))=nS m λj=>F.val (K 1 b j)-dft rtE m 1 bh j:=nS_congr λk _=>by grind
  rw[e] at h
  have h3:=mul_le_l (c:=(2*g+2*F.u)*(2*g+2*F.u)) nn_sq hlm
  grind
 have HC:=F.conv m1 m2 p0 (by grind) hR H a b bh θ1 F.u fa (λi hi=>fb i) hθ1τ τ1 lm1 (δ:=2*g+2*F.u) (by grind) (by grind) (λj hj=>by rw[hΛ];exact hβ j hj) hbM hbd (by
  have h1:=mul_le_r hRM (show nS m (λi=>F.val (a i))+(m:RR)*θ1<=2*A by
   have:=mul_le_r hA0 hu7
   grind)
  grind)
 rw[hec,hΛ] at HC
 obtain⟨fc,nc⟩:=HC
 obtain⟨c,hc⟩:∃c,convF F.R m K a b=c:=⟨_,rfl⟩
 rw[hc] at fc nc
 obtain⟨ch,hch⟩:∃ch,cyc m ah bh=ch:=⟨_,rfl⟩
 have ec0:0<ec:=by
  have h2:0<=g*g:=nn_sq
  have h1:=RR.mul_nn (x:=g) (y:=2*g+2*F.u) (by grind) (by grind)
  have h3:1+g<=(1+g)*(1+g)*(1+(2*g+2*F.u)):=by
   have:=RR.mul_nn h2 (show 0<=2*g+2*F.u by grind)
   grind
  have h4:=mul_le_r (c:=(1+4*F.u)*(1+3*F.u)) (RR.mul_nn (by grind) (by grind)) h3
  have h5:=RR.mul_nn (x:=g) (y:=(1+4*F.u)*(1+3*F.u)-1) (by grind) (by grind)
  grind
 have nc1:nS m (λk=>F.val (c k)-cyc m (λi=>F.val (a i)) bh k)<=(ec*(1+7*F.u))*(ec*(1+7*F.u))*(Λ*A):=by
  have h1:=mul_le_l (c:=ec*ec*Λ) (RR.mul_nn nn_sq (by grind)) hAa
  grind
 have nc2:nS m (λk=>cyc m (λi=>F.val (a i)) bh k-ch k)<=(7*F.u)*(7*F.u)*(Λ*A):=by
  have e:nS m (λk=>cyc m (λi=>F.val (a i)) bh k-ch k)=nS m (cyc m (λi=>F.val (a i)-ah i) bh):=nS_congr λk _=>by rw[cyc_sub,hch]
  rw[e]
  have h1:=cyc_len m1 (λi=>F.val (a i)-ah i) bh hβ
  have h2:=mul_le_l (c:=Λ) (by grind) nad
  grind
 obtain⟨e2,he2⟩:∃e2,ec*(1+7*F.u)+7*F.u=e2:=⟨_,rfl⟩
 have ecu:0<ec*(1+7*F.u):=by
  have:=RR.mul_lt (a:=0) (b:=1+7*F.u) (c:=ec) (by grind) ec0
  grind
 have e20:0<e2:=by grind
 have nc3:nS m (λk=>F.val (c k)-ch k)<=e2*e2*(Λ*A):=by
  have h:=nS_tri ecu (by grind) nc1 nc2
  have e:nS m (λk=>F.val (c k)-cyc m (λi=>F.val (a i)) bh k+(cyc m (λi=>F.val (a i)) bh k-ch k))=nS m λk=>F.val (c k)-ch k:=nS_congr λk _=>by grind
  rw[e,he2] at h
  exact h
 have ncn:nS n (λk=>F.val (c k)-ch k)<=Λ*(e2*e2*A):=by
  have h:=sumR_len (f:=λk=>nsq (F.val (c k)-ch k)) (λk=>nsq_nonneg _) hnmle
  have h2:nS n (λk=>F.val (c k)-ch k)<=nS m (λk=>F.val (c k)-ch k):=h
  grind
 have nch:nS n ch<=Λ*nS n x:=by
  have h:nS n ch<=nS m ch:=sumR_len (f:=λk=>nsq (ch k)) (λk=>nsq_nonneg _) hnmle
  have h2:=cyc_len m1 ah bh hβ
  rw[nah,hch] at h2
  grind
 have hΛnθ:=RR.mul_nn (x:=Λ) (y:=(n:RR)*θ) (by grind) hnθ
 have gc:=grow (n:=n) (a:=ch) (b:=λk=>F.val (c k)-ch k) (S:=Λ) (e:=e2) (A:=A) (f:=Λ*((n:RR)*θ)) e20 (by grind) hΛnθ (by
  rw[<-hA]
  grind) ncn
 have ecc:nS n (λk=>ch k+(F.val (c k)-ch k))=nS n λk=>F.val (c k):=nS_congr λk _=>by grind
 rw[ecc] at gc
 have hec2:ec<=1:=by
  have h1:4*((1+g)*(1+g))<=5:=by
   have:=RR.mul_nn (x:=g) (y:=1-16*g) (by grind) (by grind)
   grind
  have h2:4*(1+(2*g+2*F.u))<=5:=by grind
  have h3:100*((1+4*F.u)*(1+3*F.u))<=101:=by grind
  have h4:=mul_le_r (c:=1+(2*g+2*F.u)) (by grind) h1
  have h5:16*((1+g)*(1+g)*(1+(2*g+2*F.u)))<=25:=by grind
  have h6:=mul_le_r (c:=(1+4*F.u)*(1+3*F.u)) (RR.mul_nn (by grind) (by grind)) h5
  have h7:1600*((1+g)*(1+g)*(1+(2*g+2*F.u))*((1+4*F.u)*(1+3*F.u)))<=2525:=by grind
  rw[<-hec]
  grind
 have he21:(1+e2)*(1+e2)<=16:=by
  have h1:e2<=3:=by
   have:=RR.mul_nn (x:=1-ec) (y:=F.u) (by grind) (by grind)
   grind
  have:=RR.mul_nn (x:=3-e2) (y:=5+e2) (by grind) (by grind)
  grind
 have hcM:nS n (λk=>F.val (c k))+Λ*((n:RR)*θ)<=16*(Λ*A):=by
  have:=mul_le_r hΛA he21
  grind
 have so:∀k,k<n->F.fin (blueF F.R n m K s X k)/\nsq (F.val (blueF F.R n m K s X k)-F.val (c k)*rtE (w k) (2*n))<=(7*F.u)*(7*F.u)*(nsq (F.val (c k))+Λ*θ):=λk hk=>by
  have h1:nsq (F.val (c k))<=nS n (λk=>F.val (c k)):=nS_term (f:=λk=>F.val (c k)) hk
  have h2:=nsq_nonneg (F.val (c k))
  have h3:Λ*θ<=Λ*((n:RR)*θ):=mul_le_l (by grind) (by
   have:=RR.mul_nn (x:=(n:RR)-1) (y:=θ) (by grind) (by grind)
   grind)
  have h4:F.τ<=Λ*θ:=by
   have:=RR.mul_nn (x:=Λ-1) (y:=θ) (by grind) (by grind)
   grind
  have:=F.tw (fc k (by omega)) (w k) (n:=2*n) (by omega) n2' (Q:=nsq (F.val (c k))+Λ*θ) (by grind) (by grind) (by grind)
  have e:blueF F.R n m K s X k=F.R.mul (c k) (F.R.root (w k) ((2*n:Nat):Int)):=by rw[<-hc,<-ha,<-hb,<-hw];rfl
  rw[e]
  exact this
 refine⟨λk hk=>(so k hk).1,?_⟩
 have no1:nS n (λk=>F.val (blueF F.R n m K s X k)-F.val (c k)*rtE (w k) (2*n))<=(7*F.u*(1+e2))*(7*F.u*(1+e2))*(Λ*A):=by
  have h:nS n (λk=>F.val (blueF F.R n m K s X k)-F.val (c k)*rtE (w k) (2*n))<=sumF n λk=>(7*F.u)*(7*F.u)*(nsq (F.val (c k))+Λ*θ):=sumR_le λk hk=>(so k hk).2
  rw[sumF_left,sumF_add,sumR_const] at h
  have e:sumF n (λk=>nsq (F.val (c k)))=nS n λk=>F.val (c k):=rfl
  rw[e] at h
  have h2:=mul_le_l (c:=(7*F.u)*(7*F.u)) nn_sq gc
  grind
 have no2:nS n (λk=>F.val (c k)*rtE (w k) (2*n)-ch k*rtE (w k) (2*n))<=e2*e2*(Λ*A):=by
  have e:nS n (λk=>F.val (c k)*rtE (w k) (2*n)-ch k*rtE (w k) (2*n))=nS n λk=>F.val (c k)-ch k:=sumF_congr λk _=>by
   dsimp only
   have e:F.val (c k)*rtE (w k) (2*n)-ch k*rtE (w k) (2*n)=(F.val (c k)-ch k)*rtE (w k) (2*n):=by grind
   rw[e,nsq_mul,rtE_nsq (2*n) (by omega)]
   grind
  rw[e]
  grind
 have u70:0<7*F.u*(1+e2):=by
  have:=RR.mul_lt (a:=0) (b:=1+e2) (c:=7*F.u) (by grind) (by grind)
  grind
 have no:=nS_tri u70 e20 no1 no2
 have hexact:∀k,k<n->dft rtE n s x k=ch k*rtE (w k) (2*n):=λk hk=>by
  have hN1:2*n∣2*n*m:=Nat.dvd_mul_right _ _
  have hN2:m∣2*n*m:=Nat.dvd_mul_left _ _
  have h:=blue_dft (homE (2*n*m)) n1 hN1 hN2 hnm hs (λs x j=>dft rtE m s x j) (λs hs x j _=>rfl) x k hk
  have h2:=conv_cyc (homE m) m1 (Nat.dvd_refl m) (λs x j=>dft rtE m s x j) (λs hs x j _=>rfl) ah bh k (by omega)
  have e0:cyc m (λi=>(λx:CC=>x) (ah i)) (λi=>(λx:CC=>x) (bh i)) k=ch k:=by rw[<-hch]
  rw[e0] at h2
  rw[<-h,<-h2,<-hah,<-hbh,<-hw]
  rfl
 have eF:nS n (λk=>F.val (blueF F.R n m K s X k)-F.val (c k)*rtE (w k) (2*n)+(F.val (c k)*rtE (w k) (2*n)-ch k*rtE (w k) (2*n)))=nS n λk=>F.val (blueF F.R n m K s X k)-dft rtE n s x k:=nS_congr λk hk=>by rw[hexact k hk];grind
 rw[eF] at no
 have ef:7*F.u*(1+e2)+e2=(1+ec)*(1+7*F.u)*(1+7*F.u)-1:=by rw[<-he2];grind
 rw[ef] at no
 obtain⟨G,hG⟩:∃G,(1+ec)*(1+7*F.u)*(1+7*F.u)-1=G:=⟨_,rfl⟩
 rw[hG] at no|-
 rw[hΛ] at hν
 have h5:=mul_le_l (c:=G*G) nn_sq (mul_le_r hA0 hν)
 have e6:(n:RR)*(ν*G*(ν*G)*A)=G*G*(ν*ν*(n:RR)*A):=by grind
 rw[e6]
 have e7:G*G*(Λ*A)<=G*G*(ν*ν*(n:RR)*A):=h5
 exact Std.IsPreorder.le_trans _ _ _ no e7
end
end CG
end Go.Proofs.YtmgfaeineklccaaGreat
namespace Go.Proofs.YtmgfaeineklccaaGreat
namespace CG
theorem num_radix{x y u z:RR}(x0:0<=x)(x1:8192*x<=1)(y0:0<=y)(y1:8192*y<=1)(u0:0<u)(u1:9007199254740992*u<=1)(h:513*(x+y+8*u)<=512*z):(1+x)*(1+7*u)*(1+y)-1<=z:=by
 have h1:=RR.mul_nn (x:=1-8192*x) (y:=y) (by grind) y0
 have h2:=RR.mul_nn (x:=1-8192*x) (y:=u) (by grind) (by grind)
 have h3:=RR.mul_nn (x:=1-8192*y) (y:=u) (by grind) (by grind)
 have h4:=RR.mul_nn (x:=1-8192*x) (y:=y*u) (by grind) (RR.mul_nn y0 (by grind))
 grind
theorem num_ec{g d u z:RR}(g0:0<=g)(g1:8192*g<=1)(d0:0<=d)(d1:8192*d<=1)(u0:0<u)(u1:9007199254740992*u<=1)(h:513*(2*g+d+8*u)<=512*z):(1+g)*(1+g)*(1+d)*(1+4*u)*(1+3*u)-1<=z:=by
 have h1:=RR.mul_nn (x:=1-8192*g) (y:=g) (by grind) g0
 have h2:=RR.mul_nn (x:=1-8192*g) (y:=d) (by grind) d0
 have h3:=RR.mul_nn (x:=1-8192*g) (y:=g*d) (by grind) (RR.mul_nn g0 d0)
 obtain⟨P,hP⟩:∃P,(1+g)*(1+g)*(1+d)=P:=⟨_,rfl⟩
 have hP1:2048*P<=2048+2049*(2*g+d):=by rw[<-hP];grind
 have hP2:P<=2:=by grind
 have hP0:0<=P:=by rw[<-hP];exact RR.mul_nn nn_sq (by grind)
 have h4:=RR.mul_nn (x:=1-1000000*u) (y:=u) (by grind) (by grind)
 have h5:1000*((1+4*u)*(1+3*u))<=1000+7001*u:=by grind
 have h6:=mul_le_l hP0 h5
 have h7:=mul_le_r (c:=u) (by grind) hP2
 have h8:=mul_le_r (c:=u) (by grind) hP1
 have h9:=RR.mul_nn (x:=1-8192*g) (y:=u) (by grind) (by grind)
 have h10:=RR.mul_nn (x:=1-8192*d) (y:=u) (by grind) (by grind)
 rw[hP]
 grind
theorem num_e2{e u z:RR}(e0:0<=e)(e1:100*e<=1)(u0:0<u)(u1:9007199254740992*u<=1)(h:513*(e+15*u)<=512*z):(1+e)*(1+7*u)*(1+7*u)-1<=z:=by
 have h1:=RR.mul_nn (x:=1-100*e) (y:=u) (by grind) (by grind)
 have h2:=RR.mul_nn (x:=1-8192*u) (y:=u) (by grind) (by grind)
 have h3:=RR.mul_nn (x:=1-100*e) (y:=u*u) (by grind) nn_sq
 grind
section
variable {T : Type} (F : FL T)
def GoodN(n:Nat)(K:Tr T)(c R:Nat):Prop:=Good F n K ((c:RR)*F.u) (R:RR)
theorem nat_small{c:Nat}(h:c<=1099511627776):8192*((c:RR)*F.u)<=1:=by
 have h1:=RR.nat_le h
 have e:((1099511627776:Nat):RR)=1099511627776:=rfl
 rw[e] at h1
 have u0:=F.u0
 have u1:=F.u1
 have:=RR.mul_nn (x:=1099511627776-(c:RR)) (y:=F.u) (by grind) (by grind)
 grind
theorem nat_cu(c:Nat):0<=(c:RR)*F.u:=RR.mul_nn (RR.nat_nn c) (by have:=F.u0;grind)
theorem nat_cu_pos{c:Nat}(h:1<=c):0<(c:RR)*F.u:=by
 have:=RR.mul_lt F.u0 (RR.nat_pos h)
 grind
theorem nat_cu_le{a b:Nat}(h:a<=b):(a:RR)*F.u<=(b:RR)*F.u:=mul_le_r (by have:=F.u0;grind) (RR.nat_le h)
theorem GoodN.mono{n:Nat}{K:Tr T}{c c' R R':Nat}(h:GoodN F n K c R)(hc:c<=c')(hR:R<=R'):GoodN F n K c' R':=Good.mono F h (nat_cu F c) (nat_cu_le F hc) (RR.nat_le hR)
theorem goodN_leaf{n σ c R:Nat}(n1:1<=n)(n2:n<=32768)(h1:n<=σ*σ)(h2:σ*(9*n+1)<=c)(h3:4*n<=R):GoodN F n (directF F.R n) c R:=by
 have hσ:1<=σ:=by
  apply Classical.byContradiction
  intro h
  have:σ=0:=by omega
  subst this
  omega
 have h:=F.leaf n1 n2 (RR.nat_pos hσ) (by rw[<-RR.nat_mul];exact RR.nat_le h1)
 refine Good.mono F h ?_ ?_ ?_
 ·have:=nat_cu F (9*n+1)
  have:=RR.mul_nn (RR.nat_nn σ) (RR.mul_nn (x:=9*(n:RR)+1) (y:=F.u) (by have:=RR.nat_nn n;grind) (by have:=F.u0;grind))
  exact this
 ·have h4:=nat_cu_le F h2
  have e:((σ*(9*n+1):Nat):RR)*F.u=(σ:RR)*((9*(n:RR)+1)*F.u):=by
   rw[RR.nat_mul,RR.nat_add,RR.nat_mul]
   have e9:((9:Nat):RR)=9:=rfl
   have e1:((1:Nat):RR)=1:=rfl
   rw[e9,e1]
   grind
  rw[e] at h4
  exact h4
 ·have h4:=RR.nat_le h3
  rw[RR.nat_mul] at h4
  exact h4
theorem goodN_split{n k c R:Nat}(hk:n=2^k)(n2:n<=32768)(h2:40+20*k<=c)(h3:64*n<=R):GoodN F n (splitF F.R n n) c R:=by
 have h:=F.split n n k hk (by omega) n2
 refine Good.mono F h ?_ ?_ ?_
 ·exact RR.mul_nn (by have:=RR.nat_nn k;grind) (by have:=F.u0;grind)
 ·have h4:=nat_cu_le F h2
  have e:((40+20*k:Nat):RR)=40+20*(k:RR):=by rw[RR.nat_add,RR.nat_mul];rfl
  rw[e] at h4
  exact h4
 ·have h4:=RR.nat_le h3
  rw[RR.nat_mul] at h4
  exact h4
theorem goodN_radix{r d c0 c1 c R0 R1 R:Nat}(r1:1<=r)(d1:1<=d)(n2:r*d<=32768){K0 K1:Tr T}(H0:GoodN F r K0 c0 R0)(H1:GoodN F d K1 c1 R1)(a0:1<=c0)(b0:c0<=1099511627776)(a1:1<=c1)(b1:c1<=1099511627776)(hR1:1<=R1)(hc:513*(c0+c1+8)<=512*c)(hR:R0+16*r*R1<=R):
  GoodN F (r*d) (radixF F.R (r*d) r K0 K1) c R:=by
 have u0:=F.u0
 have u1:=F.u1
 have p0:=nat_cu_pos F a0
 have p1:=nat_cu_pos F a1
 have s0:=nat_small F b0
 have s1:=nat_small F b1
 have hR1':=RR.nat_le hR1
 rw[RR.nat_one] at hR1'
 have h:=F.radix r1 d1 n2 K0 K1 p0 (by grind) p1 (RR.nat_nn R0) hR1' H0 H1
 refine Good.mono F h ?_ ?_ ?_
 ·have h1:=RR.mul_nn (x:=(c0:RR)*F.u) (y:=(c1:RR)*F.u) (by grind) (by grind)
  have h2:=RR.mul_nn (x:=(c0:RR)*F.u) (y:=F.u) (by grind) (by grind)
  have h3:=RR.mul_nn (x:=(c1:RR)*F.u) (y:=F.u) (by grind) (by grind)
  have h4:=RR.mul_nn h1 (show 0<=F.u by grind)
  generalize (c0:RR)*F.u=x at*
  generalize (c1:RR)*F.u=y at*
  grind
 ·refine num_radix (by grind) s0 (by grind) s1 u0 u1 ?_
  have h4:=nat_cu_le F hc
  have e:((513*(c0+c1+8):Nat):RR)*F.u=513*((c0:RR)*F.u+(c1:RR)*F.u+8*F.u):=by
   rw[RR.nat_mul,RR.nat_add,RR.nat_add]
   have e9:((513:Nat):RR)=513:=rfl
   have e1:((8:Nat):RR)=8:=rfl
   rw[e9,e1]
   grind
  have e2:((512*c:Nat):RR)*F.u=512*((c:RR)*F.u):=by
   rw[RR.nat_mul]
   have e9:((512:Nat):RR)=512:=rfl
   rw[e9]
   grind
  rw[e,e2] at h4
  exact h4
 ·have h4:=RR.nat_le hR
  rw[RR.nat_add,RR.nat_mul,RR.nat_mul] at h4
  exact h4
theorem goodN_rader{m l c0 d e c R0 R:Nat}(m2:2<=m)(hm:m+1<=32768){pw:Nat->Nat}(P:Pws (m+1) pw){K:Tr T}(H:GoodN F m K c0 R0)(a0:1<=c0)(b0:c0<=1099511627776)(d1:1<=d)(bd:d<=1099511627776)(l1:1<=l)(hl:m+1<=l*l)(hl2:4*(l*l)<=9*(m+1))(hd:m*(c0+3)<=d*l)(he:513*(2*c0+d+8)<=512*e)(be:e<=1099511627776)(hc:3*e+4*m+10<=2*c)(hbR:((2*m*R0:Nat):RR)<=F.M)(hR:64*(l*l)*m*(R0+m)+8*(m+1)<=R):GoodN F (m+1) (raderF F.R (m+1) pw K) c R:=by
 have u0:=F.u0
 have u1:=F.u1
 have p0:=nat_cu_pos F a0
 have s0:=nat_small F b0
 have pd:=nat_cu_pos F d1
 have sd:=nat_small F bd
 have se:=nat_small F be
 have hl':=RR.nat_le l1
 rw[RR.nat_one] at hl'
 have c4:((4:Nat):RR)=4:=rfl
 have c9:((9:Nat):RR)=9:=rfl
 have c2:((2:Nat):RR)=2:=rfl
 have c3:((3:Nat):RR)=3:=rfl
 have c8:((8:Nat):RR)=8:=rfl
 have c10:((10:Nat):RR)=10:=rfl
 have c64:((64:Nat):RR)=64:=rfl
 have c512:((512:Nat):RR)=512:=rfl
 have c513:((513:Nat):RR)=513:=rfl
 obtain⟨ν,hν⟩:∃ν:RR,2*ν=3/\0<ν:=⟨RR.of (3/2),by
  constructor
  ·show RR.of (((2:Nat):Rat)*(3/2))=RR.of ((3:Nat):Rat)
   congr 1
   have z:((2:Nat):Rat)=2:=rfl
   have z3:((3:Nat):Rat)=3:=rfl
   rw[z,z3]
   grind
  ·have h1:¬RR.of (3/2)<=RR.of ((0:Nat):Rat):=λhh=>by
     have:=RR.of_le.1 hh
     have z:((0:Nat):Rat)=0:=rfl
     grind
   have h2:¬RR.of (3/2)<=0:=h1
   grind⟩
 obtain⟨ec,hec⟩:∃ec,(1+(c0:RR)*F.u)*(1+(c0:RR)*F.u)*(1+(d:RR)*F.u)*(1+4*F.u)*(1+3*F.u)-1=ec:=⟨_,rfl⟩
 have hece:ec<=(e:RR)*F.u:=by
  rw[<-hec]
  refine num_ec (by grind) s0 (by grind) sd u0 u1 ?_
  have h4:=nat_cu_le F he
  rw[RR.nat_mul,RR.nat_add,RR.nat_add,RR.nat_mul,RR.nat_mul,c513,c512,c2,c8] at h4
  grind
 have hm0:=RR.nat_nn m
 have h:=F.rader m2 hm P p0 (by grind) (RR.nat_nn R0) H (lm:=(l:RR)) (ν:=ν) (δ:=(d:RR)*F.u) hl' (by rw[<-RR.nat_mul];exact RR.nat_le hl) hν.2 (by
  have h1:=RR.nat_le hl2
  rw[RR.nat_mul,RR.nat_mul,RR.nat_mul,c4,c9] at h1
  have e2:ν*ν*((m+1:Nat):RR)*4=9*((m+1:Nat):RR):=by
   have:ν*ν*4=9:=by
    have h2:=hν.1
    have e:ν*ν*4=(2*ν)*(2*ν):=by grind
    rw[e,h2]
    grind
   grind
  grind) pd (by grind) (by
  have h1:=nat_cu_le F hd
  rw[RR.nat_mul,RR.nat_mul,RR.nat_add,c3] at h1
  have h2:(c0:RR)*F.u*(1+3*F.u)+2*F.u<=((c0:RR)+3)*F.u:=by
   have:=RR.mul_nn (x:=1-8192*((c0:RR)*F.u)) (y:=F.u) (by grind) (by grind)
   grind
  have h3:=mul_le_l hm0 h2
  grind) (by
  rw[RR.nat_mul,RR.nat_mul,c2] at hbR
  exact hbR) hec (by
  have:=mul_le_l (c:=ν) (by grind) hece
  have h2:=hν.1
  have h3:2*(ν*((e:RR)*F.u))=3*((e:RR)*F.u):=by
   have e:2*(ν*((e:RR)*F.u))=(2*ν)*((e:RR)*F.u):=by grind
   rw[e,h2]
  grind)
 have hec0:0<=ec:=by
  rw[<-hec]
  have h1:0<=(c0:RR)*F.u*((c0:RR)*F.u):=nn_sq
  have h3:1<=(1+(c0:RR)*F.u)*(1+(c0:RR)*F.u):=by grind
  have h4:=RR.mul_nn (x:=(1+(c0:RR)*F.u)*(1+(c0:RR)*F.u)-1) (y:=(d:RR)*F.u) (by grind) (by grind)
  obtain⟨P,hP⟩:∃P,(1+(c0:RR)*F.u)*(1+(c0:RR)*F.u)*(1+(d:RR)*F.u)=P:=⟨_,rfl⟩
  have hP1:1<=P:=by rw[<-hP];grind
  rw[hP]
  have h5:=RR.mul_nn (x:=P-1) (y:=F.u) (by grind) (by grind)
  have h6:=RR.mul_nn (x:=P-1) (y:=F.u*F.u) (by grind) nn_sq
  have h7:0<=F.u*F.u:=nn_sq
  grind
 refine Good.mono F h ?_ ?_ ?_
 ·have h1:=RR.mul_nn (x:=ν) (y:=ec) (by grind) hec0
  have h2:=RR.mul_nn (x:=2*(m:RR)+5) (y:=F.u) (by grind) (by grind)
  grind
 ·have h1:=mul_le_l (c:=ν) (by grind) hece
  have h2:=hν.1
  have h3:2*(ν*((e:RR)*F.u))=3*((e:RR)*F.u):=by
   have e:2*(ν*((e:RR)*F.u))=(2*ν)*((e:RR)*F.u):=by grind
   rw[e,h2]
  have h4:=nat_cu_le F hc
  rw[RR.nat_add,RR.nat_add,RR.nat_mul,RR.nat_mul,RR.nat_mul,c3,c4,c10,c2] at h4
  grind
 ·have h4:=RR.nat_le hR
  rw[RR.nat_add,RR.nat_mul,RR.nat_mul,RR.nat_mul,RR.nat_mul,RR.nat_mul,RR.nat_add,RR.nat_add,c64,c8] at h4
  exact h4
theorem goodN_blue{n m l ν c0 e e2 c R0 R:Nat}(n1:1<=n)(n2:n<=32768)(hnm:2*n-1<=m)(m2:m<=32768){K:Tr T}(H:GoodN F m K c0 R0)(a0:1<=c0)(b0:4*c0<=1099511627776)(l1:1<=l)(hl:2*n*m<=l*l)(v1:1<=ν)(hν:l*l<=ν*ν*n)(he:513*(4*c0+10)<=512*e)(be:e<=1099511627776)(he2:513*(e+15)<=512*e2)(hc:ν*e2<=c)(hbR:((3*n*R0:Nat):RR)<=F.M)(hR:128*(l*l)*m*(R0+m)<=R)(h1t:F.τ<=65536*F.τ)(h2t:65536*F.τ<=F.u)(h3t:1000*(65536*F.τ)<=F.M):
  GoodN (F.up (65536*F.τ) h1t h2t h3t) n (blueF F.R n m K) c R:=by
 have u0:=F.u0
 have u1:=F.u1
 have p0:=nat_cu_pos F a0
 have s0':=nat_small F b0
 have se:=nat_small F be
 have hl':=RR.nat_le l1
 rw[RR.nat_one] at hl'
 have c2:((2:Nat):RR)=2:=rfl
 have c3:((3:Nat):RR)=3:=rfl
 have c4:((4:Nat):RR)=4:=rfl
 have c10:((10:Nat):RR)=10:=rfl
 have c15:((15:Nat):RR)=15:=rfl
 have c128:((128:Nat):RR)=128:=rfl
 have c512:((512:Nat):RR)=512:=rfl
 have c513:((513:Nat):RR)=513:=rfl
 rw[RR.nat_mul,c4] at s0'
 have s0:32768*((c0:RR)*F.u)<=1:=by grind
 obtain⟨ec,hec⟩:∃ec,(1+(c0:RR)*F.u)*(1+(c0:RR)*F.u)*(1+(2*((c0:RR)*F.u)+2*F.u))*(1+4*F.u)*(1+3*F.u)-1=ec:=⟨_,rfl⟩
 have hece:ec<=(e:RR)*F.u:=by
  rw[<-hec]
  refine num_ec (by grind) (by grind) (by grind) (by grind) u0 u1 ?_
  have h4:=nat_cu_le F he
  rw[RR.nat_mul,RR.nat_add,RR.nat_mul,RR.nat_mul,c513,c512,c4,c10] at h4
  grind
 have hec0:0<=ec:=by
  rw[<-hec]
  have h1:0<=(c0:RR)*F.u*((c0:RR)*F.u):=nn_sq
  have h3:1<=(1+(c0:RR)*F.u)*(1+(c0:RR)*F.u):=by grind
  have h4:=RR.mul_nn (x:=(1+(c0:RR)*F.u)*(1+(c0:RR)*F.u)-1) (y:=2*((c0:RR)*F.u)+2*F.u) (by grind) (by grind)
  obtain⟨P,hP⟩:∃P,(1+(c0:RR)*F.u)*(1+(c0:RR)*F.u)*(1+(2*((c0:RR)*F.u)+2*F.u))=P:=⟨_,rfl⟩
  have hP1:1<=P:=by rw[<-hP];grind
  rw[hP]
  have h5:=RR.mul_nn (x:=P-1) (y:=F.u) (by grind) (by grind)
  have h6:=RR.mul_nn (x:=P-1) (y:=F.u*F.u) (by grind) nn_sq
  have h7:0<=F.u*F.u:=nn_sq
  grind
 have h:=F.blue n1 n2 hnm m2 p0 (by grind) (RR.nat_nn R0) H (lm:=(l:RR)) (ν:=(ν:RR)) hl' (by
  have h1:=RR.nat_le hl
  rw[RR.nat_mul,RR.nat_mul,RR.nat_mul,c2] at h1
  exact h1) (RR.nat_pos v1) (by
  have h1:=RR.nat_le hν
  rw[RR.nat_mul,RR.nat_mul,RR.nat_mul] at h1
  exact h1) (by
  rw[RR.nat_mul,RR.nat_mul,c3] at hbR
  exact hbR) hec h1t h2t h3t
 have hE:(1+ec)*(1+7*F.u)*(1+7*F.u)-1<=(e2:RR)*F.u:=by
  refine num_e2 hec0 (by grind) u0 u1 ?_
  have h4:=nat_cu_le F he2
  rw[RR.nat_mul,RR.nat_add,RR.nat_mul,c513,c512,c15] at h4
  grind
 have hE0:0<=(1+ec)*(1+7*F.u)*(1+7*F.u)-1:=by
  have h1:=RR.mul_nn hec0 (show 0<=F.u by grind)
  have h2:=RR.mul_nn hec0 (show 0<=F.u*F.u from nn_sq)
  have h3:0<=F.u*F.u:=nn_sq
  grind
 refine Good.mono (F.up (65536*F.τ) h1t h2t h3t) h ?_ ?_ ?_
 ·exact RR.mul_nn (RR.nat_nn ν) hE0
 ·have h1:=mul_le_l (RR.nat_nn ν) hE
  have h4:=nat_cu_le F hc
  rw[RR.nat_mul] at h4
  show(ν:RR)*((1+ec)*(1+7*F.u)*(1+7*F.u)-1)<=(c:RR)*F.u
  grind
 ·have h4:=RR.nat_le hR
  rw[RR.nat_mul,RR.nat_mul,RR.nat_mul,RR.nat_mul,RR.nat_add,c128] at h4
  exact h4
end
end CG
end Go.Proofs.YtmgfaeineklccaaGreat
