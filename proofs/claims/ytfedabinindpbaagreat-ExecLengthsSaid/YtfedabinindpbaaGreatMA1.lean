/- Real numbers, as rational sequences that come ever nearer to themselves: a ring with an order. Plain. -/
import Derived.Test.YtfedabinindpbaaGreatMS1
set_option linter.unusedSimpArgs false
set_option linter.unusedVariables false
set_option linter.unusedSectionVars false
namespace Go.Proofs.YtfedabinindpbaaGreat
def Ev(P:Nat->Prop):Prop:=∃N,∀i,N<=i->P i
theorem Ev.and{P Q:Nat->Prop}(a:Ev P)(b:Ev Q):Ev λi=>P i/\Q i:=by
 obtain⟨N,hN⟩:=a
 obtain⟨M,hM⟩:=b
 exact⟨N+M,λi hi=>⟨hN i (by omega),hM i (by omega)⟩⟩
theorem Ev.mono{P Q:Nat->Prop}(a:Ev P)(h:∀i,P i->Q i):Ev Q:=by
 obtain⟨N,hN⟩:=a
 exact⟨N,λi hi=>h i (hN i hi)⟩
theorem Ev.all{P:Nat->Prop}(h:∀i,P i):Ev P:=⟨0,λi _=>h i⟩
theorem Ev.some{P:Nat->Prop}(h:Ev P):∃i,P i:=by
 obtain⟨N,hN⟩:=h
 exact⟨N,hN N (Nat.le_refl _)⟩
theorem mulle{a b A B:Rat}(h1:-A<=a)(h2:a<=A)(h3:-B<=b)(h4:b<=B):-(A*B)<=a*b/\a*b<=A*B:=by
 have e1:=Rat.mul_nonneg (a:=A-a) (b:=B+b) (by grind) (by grind)
 have e2:=Rat.mul_nonneg (a:=A+a) (b:=B-b) (by grind) (by grind)
 have e3:=Rat.mul_nonneg (a:=A-a) (b:=B-b) (by grind) (by grind)
 have e4:=Rat.mul_nonneg (a:=A+a) (b:=B+b) (by grind) (by grind)
 constructor<;>grind
structure CSq where
 f:Nat->Rat
 c:∀e:Rat,0<e->∃N,∀i j,N<=i->N<=j->f i<=f j+e
def Near0(f g:Nat->Rat):Prop:=∀e:Rat,0<e->Ev λi=>f i-g i<=e/\g i-f i<=e
def LeS(f g:Nat->Rat):Prop:=∀e:Rat,0<e->Ev λi=>f i<=g i+e
theorem Near0.refl(f:Nat->Rat):Near0 f f:=λe he=>Ev.all λi=>by constructor<;>grind
theorem Near0.symm{f g:Nat->Rat}(h:Near0 f g):Near0 g f:=λe he=>(h e he).mono λi k=>⟨k.2,k.1⟩
theorem half_pos{e:Rat}(h:0<e):0<e/2:=by grind
theorem Near0.trans{f g h:Nat->Rat}(a:Near0 f g)(b:Near0 g h):Near0 f h:=λe he=>
 ((a _ (half_pos he)).and (b _ (half_pos he))).mono λi k=>by obtain⟨⟨h1,h2⟩,h3,h4⟩:=k;constructor<;>grind
instance csSetoid:Setoid CSq where
 r a b:=Near0 a.f b.f
 iseqv:=⟨λa=>Near0.refl _,λh=>h.symm,λh k=>h.trans k⟩
theorem ratsq(x:Rat):0<=x*x:=by
 rcases Rat.le_total (a:=0) (b:=x) with h|h
 ·exact Rat.mul_nonneg h h
 ·have:=Rat.mul_nonneg (a:=-x) (b:=-x) (by grind) (by grind);grind
theorem CSq.bd(a:CSq):∃B:Rat,0<B/\Ev λi=>-B<=a.f i/\a.f i<=B:=by
 obtain⟨N,hN⟩:=a.c 1 (by decide)
 have h3:=ratsq (a.f N)
 have h4:=ratsq (a.f N-1)
 have h5:=ratsq (a.f N+1)
 refine⟨a.f N*a.f N+2,by grind,N,λi hi=>?_⟩
 have h1:=hN i N hi (Nat.le_refl _)
 have h2:=hN N i (Nat.le_refl _) hi
 constructor<;>grind
def CSq.const(q:Rat):CSq:=⟨λ_=>q,λe he=>⟨0,λi j _ _=>by grind⟩⟩
def CSq.add(a b:CSq):CSq:=⟨λi=>a.f i+b.f i,λe he=>by
 obtain⟨N,hN⟩:=a.c _ (half_pos he)
 obtain⟨M,hM⟩:=b.c _ (half_pos he)
 exact⟨N+M,λi j hi hj=>by have:=hN i j (by omega) (by omega);have:=hM i j (by omega) (by omega);grind⟩⟩
def CSq.neg(a:CSq):CSq:=⟨λi=>-a.f i,λe he=>by
 obtain⟨N,hN⟩:=a.c e he
 exact⟨N,λi j hi hj=>by have:=hN j i hj hi;grind⟩⟩
theorem scale_pos{e A:Rat}(he:0<e)(hA:0<A):0<e/(2*A)/\A*(e/(2*A))=e/2:=by
 have h:(2*A)≠0:=by grind
 have h1:e/(2*A)*(2*A)=e:=Rat.div_mul_cancel h
 refine⟨?_,by grind⟩
 have h0:0<2*A:=by grind
 have h2:=Rat.mul_pos he (Rat.inv_pos.2 h0)
 rw[<-Rat.div_def] at h2
 exact h2
def CSq.mul(a b:CSq):CSq:=⟨λi=>a.f i*b.f i,λe he=>by
 obtain⟨A,hA,N1,hN1⟩:=a.bd
 obtain⟨B,hB,N2,hN2⟩:=b.bd
 obtain⟨d1,k1⟩:=scale_pos he hA
 obtain⟨d2,k2⟩:=scale_pos he hB
 obtain⟨N3,hN3⟩:=a.c _ d2
 obtain⟨N4,hN4⟩:=b.c _ d1
 refine⟨N1+N2+N3+N4,λi j hi hj=>?_⟩
 obtain⟨a1,a2⟩:=hN1 i (by omega)
 obtain⟨b1,b2⟩:=hN2 j (by omega)
 have c1:=hN3 i j (by omega) (by omega)
 have c2:=hN3 j i (by omega) (by omega)
 have c3:=hN4 i j (by omega) (by omega)
 have c4:=hN4 j i (by omega) (by omega)
 have m1:=(mulle (a:=a.f i) (b:=b.f i-b.f j) (A:=A) (B:=e/(2*A)) a1 a2 (by grind) (by grind)).2
 have m2:=(mulle (a:=b.f j) (b:=a.f i-a.f j) (A:=B) (B:=e/(2*B)) b1 b2 (by grind) (by grind)).2
 grind⟩
def RR:Type:=Quotient csSetoid
def RR.mk(a:CSq):RR:=Quotient.mk csSetoid a
def RR.of(q:Rat):RR:=RR.mk (CSq.const q)
theorem RR.snd{a b:CSq}(h:Near0 a.f b.f):RR.mk a=RR.mk b:=Quotient.sound h
theorem RR.eqs{a b:CSq}(h:∀i,a.f i=b.f i):RR.mk a=RR.mk b:=RR.snd λe he=>Ev.all λi=>by rw[h i];constructor<;>grind
def RR.add(x y:RR):RR:=Quotient.lift₂ (λa b=>RR.mk (CSq.add a b)) (λa c b d (h:Near0 a.f b.f) (k:Near0 c.f d.f)=>RR.snd λe he=>((h _ (half_pos he)).and (k _ (half_pos he))).mono λi k=>by
 show a.f i+c.f i-(b.f i+d.f i)<=e/\b.f i+d.f i-(a.f i+c.f i)<=e
 obtain⟨⟨h1,h2⟩,h3,h4⟩:=k;constructor<;>grind) x y
def RR.neg(x:RR):RR:=Quotient.lift (λa=>RR.mk (CSq.neg a)) (λa b (h:Near0 a.f b.f)=>RR.snd λe he=>(h e he).mono λi k=>by
 show-a.f i- -b.f i<=e/\-b.f i- -a.f i<=e
 obtain⟨h1,h2⟩:=k;constructor<;>grind) x
def RR.mul(x y:RR):RR:=Quotient.lift₂ (λa b=>RR.mk (CSq.mul a b)) (λa c b d (h:Near0 a.f b.f) (k:Near0 c.f d.f)=>RR.snd λe he=>by
 obtain⟨A,hA,kA⟩:=a.bd
 obtain⟨D,hD,kD⟩:=d.bd
 obtain⟨d1,k1⟩:=scale_pos he hA
 obtain⟨d2,k2⟩:=scale_pos he hD
 refine(((h _ d2).and (k _ d1)).and (kA.and kD)).mono λi k=>?_
 obtain⟨⟨⟨h1,h2⟩,h3,h4⟩,⟨h5,h6⟩,h7,h8⟩:=k
 show a.f i*c.f i-b.f i*d.f i<=e/\b.f i*d.f i-a.f i*c.f i<=e
 have m1:=mulle (a:=a.f i) (b:=c.f i-d.f i) (A:=A) (B:=e/(2*A)) h5 h6 (by grind) (by grind)
 have m2:=mulle (a:=d.f i) (b:=a.f i-b.f i) (A:=D) (B:=e/(2*D)) h7 h8 (by grind) (by grind)
 constructor<;>grind) x y
instance:NatCast RR:=⟨λn=>RR.of n⟩
instance:IntCast RR:=⟨λn=>RR.of n⟩
instance (n:Nat):OfNat RR n:=⟨RR.of n⟩
instance:Add RR:=⟨RR.add⟩
instance:Mul RR:=⟨RR.mul⟩
instance:Neg RR:=⟨RR.neg⟩
instance:Sub RR:=⟨λa b=>RR.add a (RR.neg b)⟩
def RR.pow(x:RR):Nat->RR
 |0=>RR.of 1
 |n+1=>RR.mul (RR.pow x n) x
instance:HPow RR Nat RR:=⟨RR.pow⟩
instance:SMul Nat RR:=⟨λn a=>RR.mul (RR.of n) a⟩
instance:SMul Int RR:=⟨λn a=>RR.mul (RR.of n) a⟩
theorem RR.ind{P:RR->Prop}(h:∀a,P (RR.mk a))(x:RR):P x:=Quotient.ind h x
theorem RR.add_mk(a b:CSq):RR.mk a+RR.mk b=RR.mk (a.add b):=rfl
theorem RR.mul_mk(a b:CSq):RR.mk a*RR.mk b=RR.mk (a.mul b):=rfl
theorem RR.neg_mk(a:CSq):-RR.mk a=RR.mk a.neg:=rfl
theorem RR.of_add(p q:Rat):RR.of (p+q)=RR.of p+RR.of q:=rfl
theorem RR.of_mul(p q:Rat):RR.of (p*q)=RR.of p*RR.of q:=rfl
theorem RR.of_neg(p:Rat):RR.of (-p)=-RR.of p:=rfl
theorem RR.of_sub(p q:Rat):RR.of (p-q)=RR.of p-RR.of q:=by
 rw[Rat.sub_eq_add_neg];rfl
instance:Lean.Grind.CommRing RR where
 add_zero a:=by induction a using RR.ind with|_ a=>exact RR.eqs λi=>by show a.f i+((0:Nat):Rat)=a.f i;grind
 add_comm a b:=by induction a using RR.ind with|_ a=>induction b using RR.ind with|_ b=>exact RR.eqs λi=>by show a.f i+b.f i=b.f i+a.f i;grind
 add_assoc a b c:=by induction a using RR.ind with|_ a=>induction b using RR.ind with|_ b=>induction c using RR.ind with|_ c=>exact RR.eqs λi=>by show a.f i+b.f i+c.f i=a.f i+(b.f i+c.f i);grind
 mul_assoc a b c:=by induction a using RR.ind with|_ a=>induction b using RR.ind with|_ b=>induction c using RR.ind with|_ c=>exact RR.eqs λi=>by show a.f i*b.f i*c.f i=a.f i*(b.f i*c.f i);grind
 mul_one a:=by induction a using RR.ind with|_ a=>exact RR.eqs λi=>by show a.f i*((1:Nat):Rat)=a.f i;grind
 mul_comm a b:=by induction a using RR.ind with|_ a=>induction b using RR.ind with|_ b=>exact RR.eqs λi=>by show a.f i*b.f i=b.f i*a.f i;grind
 left_distrib a b c:=by induction a using RR.ind with|_ a=>induction b using RR.ind with|_ b=>induction c using RR.ind with|_ c=>exact RR.eqs λi=>by show a.f i*(b.f i+c.f i)=a.f i*b.f i+a.f i*c.f i;grind
 right_distrib a b c:=by induction a using RR.ind with|_ a=>induction b using RR.ind with|_ b=>induction c using RR.ind with|_ c=>exact RR.eqs λi=>by show(a.f i+b.f i)*c.f i=a.f i*c.f i+b.f i*c.f i;grind
 one_mul a:=by induction a using RR.ind with|_ a=>exact RR.eqs λi=>by show((1:Nat):Rat)*a.f i=a.f i;grind
 mul_zero a:=by induction a using RR.ind with|_ a=>exact RR.eqs λi=>by show a.f i*((0:Nat):Rat)=((0:Nat):Rat);grind
 zero_mul a:=by induction a using RR.ind with|_ a=>exact RR.eqs λi=>by show((0:Nat):Rat)*a.f i=((0:Nat):Rat);grind
 pow_zero a:=rfl
 pow_succ a n:=rfl
 ofNat_succ n:=by show RR.of ((n+1:Nat):Rat)=RR.of ((n:Rat)+((1:Nat):Rat));congr 1;grind
 neg_add_cancel a:=by induction a using RR.ind with|_ a=>exact RR.eqs λi=>by show-a.f i+a.f i=((0:Nat):Rat);grind
 sub_eq_add_neg a b:=rfl
 neg_zsmul i a:=by induction a using RR.ind with|_ a=>exact RR.eqs λj=>by show((-i:Int):Rat)*a.f j=-((i:Rat)*a.f j);grind
 zsmul_natCast_eq_nsmul n a:=by induction a using RR.ind with|_ a=>exact RR.eqs λj=>by show(((n:Nat):Int):Rat)*a.f j=((n:Nat):Rat)*a.f j;rw[Rat.intCast_natCast]
 intCast_neg i:=by show RR.of ((-i:Int):Rat)=RR.of (-(i:Rat));rw[Rat.intCast_neg]
def RR.le(x y:RR):Prop:=Quotient.lift₂ (λa b:CSq=>LeS a.f b.f) (λa b c d h k=>propext ⟨λl e he=>by
    have h3:0<e/3:=by grind
    exact(((h _ h3).and (k _ h3)).and (l _ h3)).mono λi k=>by obtain⟨⟨⟨h1,h2⟩,h3,h4⟩,h5⟩:=k;grind,λl e he=>by
    have h3:0<e/3:=by grind
    exact(((h _ h3).and (k _ h3)).and (l _ h3)).mono λi k=>by obtain⟨⟨⟨h1,h2⟩,h3,h4⟩,h5⟩:=k;grind⟩) x y
instance:LE RR:=⟨RR.le⟩
instance:LT RR:=⟨λa b=>RR.le a b/\¬RR.le b a⟩
theorem RR.le_mk(a b:CSq):(RR.mk a<=RR.mk b)=LeS a.f b.f:=rfl
theorem gap{a b:CSq}(h:¬LeS b.f a.f):∃d:Rat,0<d/\Ev λi=>a.f i+d<=b.f i:=by
 apply Classical.byContradiction
 intro hn
 apply h
 intro e he
 obtain⟨N,hN⟩:=a.c (e/4) (by grind)
 obtain⟨M,hM⟩:=b.c (e/4) (by grind)
 apply Classical.byContradiction
 intro hx
 have:∃i,N+M<=i/\¬(b.f i<=a.f i+e):=by
  apply Classical.byContradiction
  intro hy
  exact hx ⟨N+M,λi hi=>Classical.byContradiction λhz=>hy ⟨i,hi,hz⟩⟩
 obtain⟨i,hi,hz⟩:=this
 refine hn ⟨e/2,by grind,N+M,λj hj=>?_⟩
 have h1:=hN j i (by omega) (by omega)
 have h2:=hM i j (by omega) (by omega)
 grind
instance:Std.IsLinearOrder RR where
 le_refl a:=by induction a using RR.ind with|_ a=>exact λe he=>Ev.all λi=>by grind
 le_trans a b c:=by
  induction a using RR.ind with|_ a=>
  induction b using RR.ind with|_ b=>
  induction c using RR.ind with|_ c=>
  intro(h:LeS a.f b.f) (k:LeS b.f c.f) e he
  exact((h _ (half_pos he)).and (k _ (half_pos he))).mono λi k=>by obtain⟨h1,h2⟩:=k;grind
 le_antisymm a b:=by
  induction a using RR.ind with|_ a=>
  induction b using RR.ind with|_ b=>
  intro(h:LeS a.f b.f) (k:LeS b.f a.f)
  exact RR.snd λe he=>((h e he).and (k e he)).mono λi k=>by obtain⟨h1,h2⟩:=k;constructor<;>grind
 le_total a b:=by
  induction a using RR.ind with|_ a=>
  induction b using RR.ind with|_ b=>
  by_cases h:LeS b.f a.f
  ·exact .inr h
  ·obtain⟨d,hd,hg⟩:=gap h
   exact .inl λe he=>hg.mono λi k=>by grind
instance:Std.LawfulOrderLT RR where
 lt_iff a b:=Iff.rfl
instance:Lean.Grind.OrderedAdd RR where
 add_le_left_iff {a b} c:=by
  induction a using RR.ind with|_ a=>
  induction b using RR.ind with|_ b=>
  induction c using RR.ind with|_ c=>
  constructor
  ·intro(h:LeS a.f b.f) e he
   exact(h e he).mono λi k=>by show a.f i+c.f i<=b.f i+c.f i+e;grind
  ·intro(h:LeS (a.add c).f (b.add c).f) e he
   exact(h e he).mono λi (k:a.f i+c.f i<=b.f i+c.f i+e)=>by grind
theorem RR.mul_lt{a b c:RR}(h:a<b)(hc:(0:RR)<c):c*a<c*b:=by
 induction a using RR.ind with|_ a=>
 induction b using RR.ind with|_ b=>
 induction c using RR.ind with|_ c=>
 obtain⟨d,hd,hg⟩:=gap (a:=a) (b:=b) h.2
 obtain⟨k,hk,hl⟩:=gap (a:=CSq.const ((0:Nat):Rat)) (b:=c) hc.2
 have hp:=Rat.mul_pos hd hk
 have key:Ev λi=>c.f i*a.f i+d*k<=c.f i*b.f i:=(hg.and hl).mono λi x=>by
  obtain⟨h1,(h2:((0:Nat):Rat)+k<=c.f i)⟩:=x
  have:=Rat.mul_nonneg (a:=b.f i-a.f i-d) (b:=c.f i) (by grind) (by grind)
  have:=Rat.mul_nonneg (a:=d) (b:=c.f i-k) (by grind) (by grind)
  grind
 refine⟨λe he=>key.mono λi x=>by show c.f i*a.f i<=c.f i*b.f i+e;grind,λhn=>?_⟩
 obtain⟨i,h1,h2⟩:=((hn _ (half_pos hp)).and key).some
 have h1':c.f i*b.f i<=c.f i*a.f i+d*k/2:=h1
 grind
instance:Lean.Grind.OrderedRing RR where
 zero_lt_one:=by
  refine⟨λe he=>Ev.all λi=>by show((0:Nat):Rat)<=((1:Nat):Rat)+e;grind,λhn=>?_⟩
  obtain⟨i,h⟩:=(hn (1/2) (by grind)).some
  have h':((1:Nat):Rat)<=((0:Nat):Rat)+1/2:=h
  grind
 mul_lt_mul_of_pos_left:=RR.mul_lt
 mul_lt_mul_of_pos_right {a b c} h hc:=by
  have:=RR.mul_lt h hc
  have e1:c*a=a*c:=by grind
  have e2:c*b=b*c:=by grind
  rwa [e1,e2] at this
theorem RR.of_le{p q:Rat}:RR.of p<=RR.of q↔p<=q:=by
 constructor
 ·intro h
  apply Classical.byContradiction
  intro hn
  have hd:0<(p-q)/2:=by grind
  obtain⟨i,hi⟩:=(h _ hd).some
  have hi':p<=q+(p-q)/2:=hi
  grind
 ·intro h e he
  exact Ev.all λi=>by show p<=q+e;grind
theorem RR.sq_nonneg(x:RR):0<=x*x:=by
 rcases Std.IsLinearPreorder.le_total 0 x with h|h
 ·rcases Classical.em (x=0) with rfl|hn
  ·grind
  ·have:(0:RR)<x:=by grind
   have:=RR.mul_lt this this
   grind
 ·rcases Classical.em (x=0) with rfl|hn
  ·grind
  ·have:(0:RR)< -x:=by grind
   have:=RR.mul_lt this this
   grind
theorem RR.mul_nn{x y:RR}(hx:0<=x)(hy:0<=y):0<=x*y:=by
 rcases Classical.em (x=0) with rfl|hn
 ·grind
 ·rcases Classical.em (y=0) with rfl|hm
  ·grind
  ·have h1:(0:RR)<x:=by grind
   have h2:(0:RR)<y:=by grind
   have:=RR.mul_lt h2 h1
   grind
namespace CG
open Lean.Grind
def sumF{KK:Type}[Lean.Grind.CommRing KK]:Nat->(Nat->KK)->KK
 |0,_=>0
 |n+1,f=>sumF n f+f n
section
variable {KK : Type} [Lean.Grind.CommRing KK]
theorem sumF_succ(n:Nat)(f:Nat->KK):sumF (n+1) f=sumF n f+f n:=rfl
theorem sumF_nil(f:Nat->KK):sumF 0 f=0:=rfl
theorem sumF_congr{n:Nat}{f g:Nat->KK}(h:∀k,k<n->f k=g k):sumF n f=sumF n g:=by
 induction n with
 |zero=>rfl
 |succ n ih=>rw[sumF_succ,sumF_succ,ih λk hk=>h k (by omega),h n (by omega)]
theorem sumF_zero(n:Nat):sumF n (λ_=>(0:KK))=0:=by
 induction n with
 |zero=>rfl
 |succ n ih=>rw[sumF_succ,ih];grind
theorem sumF_add(n:Nat)(f g:Nat->KK):sumF n (λk=>f k+g k)=sumF n f+sumF n g:=by
 induction n with
 |zero=>rw[sumF_nil,sumF_nil,sumF_nil];grind
 |succ n ih=>rw[sumF_succ,sumF_succ,sumF_succ,ih];grind
theorem sumF_left(n:Nat)(c:KK)(f:Nat->KK):sumF n (λk=>c*f k)=c*sumF n f:=by
 induction n with
 |zero=>rw[sumF_nil,sumF_nil];grind
 |succ n ih=>rw[sumF_succ,sumF_succ,ih];grind
theorem sumF_right(n:Nat)(c:KK)(f:Nat->KK):sumF n (λk=>f k*c)=sumF n f*c:=by
 induction n with
 |zero=>rw[sumF_nil,sumF_nil];grind
 |succ n ih=>rw[sumF_succ,sumF_succ,ih];grind
theorem sumF_comm(n m:Nat)(f:Nat->Nat->KK):sumF n (λi=>sumF m (λj=>f i j))=sumF m (λj=>sumF n (λi=>f i j)):=by
 induction n with
 |zero=>
   rw[sumF_nil]
   exact(sumF_zero m).symm
 |succ n ih=>
   rw[sumF_succ,ih,<-sumF_add]
   rfl
theorem sumF_app(n m:Nat)(f:Nat->KK):sumF (n+m) f=sumF n f+sumF m (λk=>f (n+k)):=by
 induction m with
 |zero=>rw[sumF_nil];show sumF n f=_;grind
 |succ m ih=>show sumF (n+m) f+f (n+m)=_;rw[ih,sumF_succ];grind
theorem sumF_grid(r c:Nat)(f:Nat->KK):sumF (r*c) f=sumF c (λb=>sumF r (λi=>f (b+i*c))):=by
 rw[sumF_comm]
 induction r with
 |zero=>rw[Nat.zero_mul,sumF_nil,sumF_nil]
 |succ r ih=>
   rw[Nat.succ_mul,sumF_app,ih,sumF_succ]
   congr 1
   exact sumF_congr λk _=>by rw[Nat.add_comm]
theorem sumF_one(n j:Nat)(f:Nat->KK)(hj:j<n):sumF n (λk=>if k=j then f k else 0)=f j:=by
 induction n with
 |zero=>omega
 |succ n ih=>
   rw[sumF_succ]
   by_cases e:n=j
   ·subst e
    rw[if_pos rfl,sumF_congr (g:=λ_=>0) λk hk=>by rw[if_neg (by omega)],sumF_zero]
    grind
   ·rw[ih (by omega),if_neg e];grind
theorem sumF_perm(n:Nat)(s:Nat->Nat)(f:Nat->KK)(hm:∀k,k<n->s k<n)(hi:∀k l,k<n->l<n->s k=s l->k=l):sumF n (λk=>f (s k))=sumF n f:=by
 induction n generalizing s f with
 |zero=>rfl
 |succ n ih=>
   have hex:∃j,j<n+1/\s j=n:=by
    apply Classical.byContradiction
    intro hno
    have hlt:∀k,k<n+1->s k<n:=λk hk=>by
     have:=hm k hk
     have:s k≠n:=λe=>hno ⟨k,hk,e⟩
     omega
    exact pigeon n s hlt hi
   obtain⟨j,hj,hjn⟩:=hex
   have ht:=ih (λk=>if k=j then s n else s k) f
    (λk hk=>by
     show(if k=j then s n else s k)<n
     by_cases e:k=j
     ·rw[if_pos e]
      have:=hm n (by omega)
      have:s n≠n:=λh=>by have:=hi n j (by omega) hj (by omega);omega
      omega
     ·rw[if_neg e]
      have:=hm k (by omega)
      have:s k≠n:=λh=>e (hi k j (by omega) hj (by omega))
      omega)
    (λk l hk hl h=>by
     by_cases e:k=j
     ·by_cases e2:l=j
      ·omega
      ·rw[if_pos e,if_neg e2] at h
       have:=hi n l (by omega) (by omega) h
       omega
     ·by_cases e2:l=j
      ·rw[if_neg e,if_pos e2] at h
       have:=hi k n (by omega) (by omega) h
       omega
      ·rw[if_neg e,if_neg e2] at h
       exact hi k l (by omega) (by omega) h)
   rw[sumF_succ,sumF_succ,<-ht]
   by_cases e:j=n
   ·subst e
    rw[hjn]
    congr 1
    exact sumF_congr λk hk=>by rw[if_neg (by omega)]
   ·have h1:sumF n (λk=>f (s k))=sumF n (λk=>(if k=j then f (s k) else 0)+(if k=j then 0 else f (s k))):=sumF_congr λk _=>by
      by_cases e:k=j
      ·rw[if_pos e,if_pos e];grind
      ·rw[if_neg e,if_neg e];grind
    have h2:sumF n (λk=>f (if k=j then s n else s k))=sumF n (λk=>(if k=j then f (s n) else 0)+(if k=j then 0 else f (s k))):=sumF_congr λk _=>by
     by_cases e:k=j
     ·rw[if_pos e,if_pos e,if_pos e];grind
     ·rw[if_neg e,if_neg e,if_neg e];grind
    rw[h1,h2,sumF_add,sumF_add,sumF_one n j (λk=>f (s k)) (by omega),sumF_one n j (λ_=>f (s n)) (by omega),hjn]
    grind
where
 pigeon:∀(n:Nat) (s:Nat->Nat),(∀k,k<n+1->s k<n)->(∀k l,k<n+1->l<n+1->s k=s l->k=l)->False:=by
  intro n
  induction n with
  |zero=>intro s h _;have:=h 0 (by omega);omega
  |succ n ih=>
    intro s h hi
    refine ih (λk=>if s k=n then s (n+1) else s k) (λk hk=>?_) (λk l hk hl e=>?_)
    ·by_cases e:s k=n
     ·rw[if_pos e]
      have:=h (n+1) (by omega)
      have:s (n+1)≠n:=λe2=>by have:=hi k (n+1) (by omega) (by omega) (by omega);omega
      omega
     ·rw[if_neg e]
      have:=h k (by omega)
      omega
    ·by_cases e1:s k=n
     ·by_cases e2:s l=n
      ·exact hi k l (by omega) (by omega) (by omega)
      ·rw[if_pos e1,if_neg e2] at e
       have:=hi (n+1) l (by omega) (by omega) e
       omega
     ·by_cases e2:s l=n
      ·rw[if_neg e1,if_pos e2] at e
       have:=hi k (n+1) (by omega) (by omega) e
       omega
      ·rw[if_neg e1,if_neg e2] at e
       exact hi k l (by omega) (by omega) e
end
section
variable {KK : Type} [Lean.Grind.CommRing KK]
structure Rts(N:Nat)(rt:Int->Nat->KK):Prop where
 zero:∀n,1<=n->n∣N->rt 0 n=1
 add:∀n a b,1<=n->n∣N->rt (a+b) n=rt a n*rt b n
 full:∀n (m:Int),1<=n->n∣N->rt (n*m) n=1
 scale:∀(m n:Nat) (k:Int),1<=m->1<=n->m*n∣N->rt (m*k) (m*n)=rt k n
 orth:∀n (j:Int),1<=n->n∣N->¬(n:Int)∣j->sumF n (λk=>rt (j*k) n)=0
def dft(rt:Int->Nat->KK)(n:Nat)(s:Int)(x:Nat->KK)(j:Nat):KK:=sumF n λk=>x k*rt (s*((j:Int)*k)) n
structure Hom{T:Type}(R:Rg T)(N:Nat)(rt:Int->Nat->KK)(h:T->KK):Prop where
 rts:Rts N rt
 zero:h R.zero=0
 add:∀a b,h (R.add a b)=h a+h b
 sub:∀a b,h (R.sub a b)=h a-h b
 mul:∀a b,h (R.mul a b)=h a*h b
 over:∀a (n:Nat),1<=n->n∣N->h (R.over a n)*sumF n (λ_=>1)=h a
 inv:∀n:Nat,1<=n->n∣N->∃v:KK,v*sumF n (λ_=>1)=1
 root:∀k (n:Nat),1<=n->n∣N->h (R.root k n)=rt k n
variable {N : Nat} {rt : Int -> Nat -> KK}
theorem Rts.mod(H:Rts N rt){n:Nat}(n1:1<=n)(hn:n∣N)(a m:Int):rt (a+n*m) n=rt a n:=by
 rw[H.add n _ _ n1 hn,H.full n m n1 hn];grind
theorem unit_one{s:Int}(hs:s=1\/s=-1):unitI s=s:=by
 unfold unitI
 rcases hs with rfl|rfl<;>decide
theorem Rts.red(H:Rts N rt){n:Nat}(n1:1<=n)(hn:n∣N)(s:Int)(a b:Nat)(h:a%n=b%n):rt (s*(a:Int)) n=rt (s*(b:Int)) n:=by
 have ha:=Nat.mod_add_div a n
 have hb:=Nat.mod_add_div b n
 have e1:s*(a:Int)=s*((a%n:Nat):Int)+n*(s*((a/n:Nat):Int)):=by
  have:(a:Int)=((a%n:Nat):Int)+n*((a/n:Nat):Int):=by
   rw[<-Int.natCast_mul,<-Int.natCast_add,ha]
  rw[this];grind
 have e2:s*(b:Int)=s*((b%n:Nat):Int)+n*(s*((b/n:Nat):Int)):=by
  have:(b:Int)=((b%n:Nat):Int)+n*((b/n:Nat):Int):=by
   rw[<-Int.natCast_mul,<-Int.natCast_add,hb]
  rw[this];grind
 rw[e1,e2,H.mod n1 hn,H.mod n1 hn,h]
variable {T : Type} {R : Rg T} {h : T -> KK}
theorem Hom.fold(H:Hom R N rt h)(n:Nat)(f:Nat->T):h (foldT n (λacc k=>R.add acc (f k)) R.zero)=sumF n λk=>h (f k):=by
 induction n with
 |zero=>exact H.zero
 |succ n ih=>rw[foldT_succ,H.add,ih,sumF_succ]
theorem direct_dft(H:Hom R N rt h){n:Nat}(n1:1<=n)(hn:n∣N){s:Int}(hs:s=1\/s=-1)(x:Nat->T)(j:Nat):h (directF R n s x j)=dft rt n s (λk=>h (x k)) j:=by
 unfold directF dotF dft
 rw[H.fold]
 refine sumF_congr λk hk=>?_
 rw[H.mul,H.root _ _ n1 hn,unit_one hs,H.rts.red n1 hn s (j*k%n) (j*k) (Nat.mod_mod _ _),Int.natCast_mul]
theorem radix_dft(H:Hom R N rt h){r c:Nat}(r1:1<=r)(c1:1<=c)(hn:r*c∣N){s:Int}(hs:s=1\/s=-1)(K0 K1:Tr T)(h0:∀x j,j<r->h (K0 s x j)=dft rt r s (λk=>h (x k)) j)(h1:∀x j,j<c->h (K1 s x j)=dft rt c s (λk=>h (x k)) j)(x:Nat->T)(y:Nat)(hy:y<r*c):h (radixF R (r*c) r K0 K1 s x y)=dft rt (r*c) s (λk=>h (x k)) y:=by
 have ec:r*c/r=c:=Nat.mul_div_cancel_left _ r1
 have hr:r∣N:=Nat.dvd_trans (Nat.dvd_mul_right _ _) hn
 have hc:c∣N:=Nat.dvd_trans (Nat.dvd_mul_left _ _) hn
 have n1:1<=r*c:=Nat.mul_pos r1 c1
 obtain⟨a,ha⟩:∃a,y%r=a:=⟨_,rfl⟩
 obtain⟨d,hd⟩:∃d,y/r=d:=⟨_,rfl⟩
 have ha':a<r:=by rw[<-ha];exact Nat.mod_lt _ r1
 have hd':d<c:=by rw[<-hd];exact Nat.div_lt_of_lt_mul hy
 have ey:y=a+d*r:=by
  have:=Nat.mod_add_div y r
  rw[ha,hd,Nat.mul_comm] at this
  omega
 subst ey
 unfold radixF outF
 rw[ec,cols_at (λa=>K1 s (gathT (midF R (r*c) r s K0 x) (a*c) 1)) r c r a d _ ha' (Nat.le_refl _) hd',h1 _ _ hd']
 unfold dft
 rw[sumF_grid r c]
 refine sumF_congr λb hb=>?_
 have em:h (gathT (midF R (r*c) r s K0 x) (a*c) 1 b)=(sumF r λi=>h (x (b+i*c))*rt (s*((a:Int)*i)) r)*rt (s*((a:Int)*b)) (r*c):=by
  have e1:(a*c+b*1)/c=a:=by rw[Nat.mul_one,Nat.add_comm,Nat.add_mul_div_right _ _ c1,Nat.div_eq_of_lt hb,Nat.zero_add]
  have e2:(a*c+b*1)%c=b:=by rw[Nat.mul_one,Nat.add_comm,Nat.add_mul_mod_self_right,Nat.mod_eq_of_lt hb]
  have e3:a*c+b*1=b+a*c:=by omega
  show h (midF R (r*c) r s K0 x (a*c+b*1))=_
  unfold midF twistF
  rw[ec,e1,e2,e3,H.mul]
  have e4:mid0F R c r s K0 x c (b+a*c)=K0 s (gathT x b c) a:=cols_at (λb=>K0 s (gathT x b c)) c r c b a _ hb (Nat.le_refl _) ha'
  rw[e4,h0 _ _ ha',H.root _ _ n1 hn,unit_one hs,Int.mul_assoc]
  rfl
 show h (gathT (midF R (r*c) r s K0 x) (a*c) 1 b)*rt (s*((d:Int)*b)) c=sumF r λi=>h (x (b+i*c))*rt (s*(((a+d*r:Nat):Int)*((b+i*c:Nat):Int))) (r*c)
 rw[em,<-sumF_right,<-sumF_right]
 refine sumF_congr λi hi=>?_
 have e5:s*(((a+d*r:Nat):Int)*((b+i*c:Nat):Int))=s*((a:Int)*b)+((c:Int)*(s*((a:Int)*i))+((r:Int)*(s*((d:Int)*b))+((r*c:Nat):Int)*(s*((d:Int)*i)))):=by
  rw[Int.natCast_add,Int.natCast_add,Int.natCast_mul,Int.natCast_mul,Int.natCast_mul]
  grind
 have e6:rt ((c:Int)*(s*((a:Int)*i))) (r*c)=rt (s*((a:Int)*i)) r:=by
  rw[Nat.mul_comm r c];exact H.rts.scale c r _ c1 r1 (by rw[Nat.mul_comm];exact hn)
 have e7:=H.rts.scale r c (s*((d:Int)*b)) r1 c1 hn
 have e8:=H.rts.full (r*c) (s*((d:Int)*i)) n1 hn
 rw[e5,H.rts.add _ _ _ n1 hn,H.rts.add _ _ _ n1 hn,H.rts.add _ _ _ n1 hn,e6,e7,e8]
 grind
end
theorem fold4{T:Type}(Q:Nat)(V:Nat->Nat->T)(M:Nat)(hM:M<=Q)(g:Nat->T)(u k0:Nat)(hu:u<4)(hk:k0<M):
  foldT M (λh k=>updT (updT (updT (updT h k (V 0 k)) (k+2*Q) (V 2 k)) (k+Q) (V 1 k)) (k+3*Q) (V 3 k)) g (k0+u*Q)=V u k0:=by
 induction M with
 |zero=>omega
 |succ M ih=>
   rw[foldT_succ]
   have hu4:u=0\/u=1\/u=2\/u=3:=by omega
   by_cases e:k0=M
   ·subst e
    rcases hu4 with rfl|rfl|rfl|rfl
    ·show(if k0+0*Q=k0+3*Q then _ else if k0+0*Q=k0+Q then _ else if k0+0*Q=k0+2*Q then _ else if k0+0*Q=k0 then _ else _)=_
     rw[if_neg (by omega),if_neg (by omega),if_neg (by omega),if_pos (by omega)]
    ·show(if k0+1*Q=k0+3*Q then _ else if k0+1*Q=k0+Q then _ else if k0+1*Q=k0+2*Q then _ else if k0+1*Q=k0 then _ else _)=_
     rw[if_neg (by omega),if_pos (by omega)]
    ·show(if k0+2*Q=k0+3*Q then _ else if k0+2*Q=k0+Q then _ else if k0+2*Q=k0+2*Q then _ else if k0+2*Q=k0 then _ else _)=_
     rw[if_neg (by omega),if_neg (by omega),if_pos (by omega)]
    ·show(if k0+3*Q=k0+3*Q then _ else if k0+3*Q=k0+Q then _ else if k0+3*Q=k0+2*Q then _ else if k0+3*Q=k0 then _ else _)=_
     rw[if_pos (by omega)]
   ·have ih':=ih (by omega) (by omega)
    rw[<-ih']
    rcases hu4 with rfl|rfl|rfl|rfl
    ·show(if k0+0*Q=M+3*Q then _ else if k0+0*Q=M+Q then _ else if k0+0*Q=M+2*Q then _ else if k0+0*Q=M then _ else _)=_
     rw[if_neg (by omega),if_neg (by omega),if_neg (by omega),if_neg (by omega)]
    ·show(if k0+1*Q=M+3*Q then _ else if k0+1*Q=M+Q then _ else if k0+1*Q=M+2*Q then _ else if k0+1*Q=M then _ else _)=_
     rw[if_neg (by omega),if_neg (by omega),if_neg (by omega),if_neg (by omega)]
    ·show(if k0+2*Q=M+3*Q then _ else if k0+2*Q=M+Q then _ else if k0+2*Q=M+2*Q then _ else if k0+2*Q=M then _ else _)=_
     rw[if_neg (by omega),if_neg (by omega),if_neg (by omega),if_neg (by omega)]
    ·show(if k0+3*Q=M+3*Q then _ else if k0+3*Q=M+Q then _ else if k0+3*Q=M+2*Q then _ else if k0+3*Q=M then _ else _)=_
     rw[if_neg (by omega),if_neg (by omega),if_neg (by omega),if_neg (by omega)]
section
variable {KK : Type} [Lean.Grind.CommRing KK] {T : Type} {N : Nat} {rt : Int -> Nat -> KK} {R : Rg T} {h : T -> KK}
theorem sumF_turn(m:Nat)(g:Nat->KK):sumF (m+1) (λt=>if t=0 then g m else g (t-1))=sumF (m+1) g:=by
 have e:sumF (m+1) (λt=>if t=0 then g m else g (t-1))=g m+sumF m g:=by
  rw[Nat.add_comm,sumF_app]
  congr 1
  ·show 0+g m=_;grind
  ·exact sumF_congr λk _=>by rw[if_neg (by omega)];congr 1;omega
 rw[e,sumF_succ];grind
theorem sum_four(Q:Nat)(hQ:1<=Q)(f:Nat->KK):sumF (4*Q) f=sumF (2*Q) (λt=>f (2*t))+sumF Q (λt=>f (4*t+1))+sumF Q (λt=>f (if t=0 then 4*Q-1 else 4*t-1)):=by
 have L4:sumF (4*Q) f=sumF 4 (λb=>sumF Q (λi=>f (b+i*4))):=by
  rw[Nat.mul_comm 4];exact sumF_grid Q 4 f
 have L2:sumF (2*Q) (λt=>f (2*t))=sumF 2 (λb=>sumF Q (λi=>f (2*(b+i*2)))):=by
  rw[Nat.mul_comm 2 Q];exact sumF_grid Q 2 (λt=>f (2*t))
 rw[L4,L2]
 have e4:∀g:Nat->KK,sumF 4 g=g 0+g 1+g 2+g 3:=λg=>by
  show 0+g 0+g 1+g 2+g 3=_;grind
 have e2:∀g:Nat->KK,sumF 2 g=g 0+g 1:=λg=>by
  show 0+g 0+g 1=_;grind
 rw[e4,e2]
 have a0:sumF Q (λi=>f (2*(0+i*2)))=sumF Q (λi=>f (0+i*4)):=sumF_congr λi _=>by congr 1;omega
 have a1:sumF Q (λi=>f (2*(1+i*2)))=sumF Q (λi=>f (2+i*4)):=sumF_congr λi _=>by congr 1;omega
 have a2:sumF Q (λt=>f (4*t+1))=sumF Q (λi=>f (1+i*4)):=sumF_congr λi _=>by congr 1;omega
 have a3:sumF Q (λt=>f (if t=0 then 4*Q-1 else 4*t-1))=sumF Q (λi=>f (3+i*4)):=by
  obtain⟨m,rfl⟩:∃m,Q=m+1:=⟨Q-1,by omega⟩
  rw[<-sumF_turn m (λi=>f (3+i*4))]
  refine sumF_congr λt _=>?_
  by_cases e:t=0
  ·rw[if_pos e,if_pos e];congr 1;omega
  ·rw[if_neg e,if_neg e];congr 1;omega
 rw[a0,a1,a2,a3]
 grind
theorem Rts.half(H:Rts N rt)(h2:2∣N){s:Int}(hs:s=1\/s=-1):rt s 2=-1:=by
 have o:=H.orth 2 1 (by omega) h2 (by omega)
 have z:=H.zero 2 (by omega) h2
 have o2:rt (1*(0:Nat)) 2+rt (1*(1:Nat)) 2=0:=by
  rw[<-o]
  show _=0+_+_
  grind
 have e1:rt 1 2=-1:=by
  have:rt (1*((0:Nat):Int)) 2=1:=z
  rw[this] at o2
  have e:(1*((1:Nat):Int))=1:=rfl
  rw[e] at o2
  grind
 rcases hs with rfl|rfl
 ·exact e1
 ·have:=H.mod (n:=2) (by omega) h2 1 (-1)
  rw[<-e1,<-this]
  rfl
theorem split_step(H:Hom R N rt h){Q:Nat}(hQ:1<=Q)(hn:4*Q∣N){s:Int}(hs:s=1\/s=-1)(x e z y:Nat->T)(g:Nat->T)(he:∀j,j<2*Q->h (e j)=dft rt (2*Q) s (λk=>h (x (2*k))) j)(hz:∀j,j<Q->h (z j)=dft rt Q s (λk=>h (x (4*k+1))) j)(hy:∀j,j<Q->h (y j)=dft rt Q s (λk=>h (x (if k=0 then 4*Q-1 else 4*k-1))) j)(j:Nat)(hj:j<4*Q):h (foldT Q (splitR R (4*Q) s e z y) g j)=dft rt (4*Q) s (λk=>h (x k)) j:=by
 have n1:1<=4*Q:=by omega
 have hQd:Q∣N:=Nat.dvd_trans (Nat.dvd_mul_left _ _) hn
 have h2Q:2*Q∣N:=Nat.dvd_trans ⟨2,by omega⟩ hn
 have h2:2∣N:=Nat.dvd_trans ⟨2*Q,by omega⟩ hn
 have eQ:4*Q/4=Q:=Nat.mul_div_cancel_left _ (by omega)
 obtain⟨k,hk⟩:∃k,j%Q=k:=⟨_,rfl⟩
 obtain⟨u,hu⟩:∃u,j/Q=u:=⟨_,rfl⟩
 have hk':k<Q:=by rw[<-hk];exact Nat.mod_lt _ hQ
 have hu':u<4:=by rw[<-hu];exact Nat.div_lt_of_lt_mul (by rw[Nat.mul_comm];exact hj)
 have ej:j=k+u*Q:=by
  have:=Nat.mod_add_div j Q
  rw[hk,hu,Nat.mul_comm] at this
  omega
 subst ej
 let ii:=R.root (s*((Q:Nat):Int)) ((4*Q:Nat):Int)
 let uu:=λk:Nat=>R.mul (R.root (s*(k:Int)) ((4*Q:Nat):Int)) (z k)
 let vv:=λk:Nat=>R.mul (R.root (s*(-(k:Int))) ((4*Q:Nat):Int)) (y k)
 let V:Nat->Nat->T:=λw k=>match w with
  |0=>R.add (e k) (R.add (uu k) (vv k))
  |1=>R.add (e (k+Q)) (R.mul ii (R.sub (uu k) (vv k)))
  |2=>R.sub (e k) (R.add (uu k) (vv k))
  |_=>R.sub (e (k+Q)) (R.mul ii (R.sub (uu k) (vv k)))
 have eV:foldT Q (splitR R (4*Q) s e z y) g (k+u*Q)=V u k:=by
  have:splitR R (4*Q) s e z y=λh k=>updT (updT (updT (updT h k (V 0 k)) (k+2*Q) (V 2 k)) (k+Q) (V 1 k)) (k+3*Q) (V 3 k):=by
   funext h k
   unfold splitR
   rw[eQ]
   rfl
  rw[this]
  exact fold4 Q V Q (Nat.le_refl _) g u k hu' hk'
 rw[eV]
 have hi:h ii=rt (s*(Q:Int)) (4*Q):=H.root _ _ n1 hn
 have huu:h (uu k)=rt (s*(k:Int)) (4*Q)*dft rt Q s (λk=>h (x (4*k+1))) k:=by
  show h (R.mul _ _)=_
  rw[H.mul,H.root _ _ n1 hn,hz k hk']
 have hvv:h (vv k)=rt (s*(-(k:Int))) (4*Q)*dft rt Q s (λk=>h (x (if k=0 then 4*Q-1 else 4*k-1))) k:=by
  show h (R.mul _ _)=_
  rw[H.mul,H.root _ _ n1 hn,hy k hk']
 have hd:dft rt (4*Q) s (λk=>h (x k)) (k+u*Q)
   =dft rt (2*Q) s (λk=>h (x (2*k))) (k+u*Q)+rt (s*((k+u*Q:Nat):Int)) (4*Q)*dft rt Q s (λk=>h (x (4*k+1))) k
    +rt (-(s*((k+u*Q:Nat):Int))) (4*Q)*dft rt Q s (λk=>h (x (if k=0 then 4*Q-1 else 4*k-1))) k:=by
  unfold dft
  rw[sum_four Q hQ,<-sumF_left,<-sumF_left]
  obtain⟨J,hJ⟩:∃J,k+u*Q=J:=⟨_,rfl⟩
  have hJk:∀t:Nat,rt (s*((J:Int)*t)) Q=rt (s*((k:Int)*t)) Q:=λt=>by
   rw[<-Int.natCast_mul,<-Int.natCast_mul]
   refine H.rts.red hQ hQd s _ _ ?_
   rw[<-hJ,Nat.add_mul,Nat.mul_right_comm,Nat.add_mul_mod_self_right]
  rw[hJ]
  congr 1
  ·congr 1
   ·refine sumF_congr λt _=>?_
    congr 1
    have e5:=H.rts.scale 2 (2*Q) (s*((J:Int)*t)) (by omega) (by omega) (by rw[show 2*(2*Q)=4*Q from by omega];exact hn)
    rw[show 2*(2*Q)=4*Q from by omega] at e5
    rw[<-e5]
    congr 1
    rw[Int.natCast_mul];grind
   ·refine sumF_congr λt _=>?_
    have e5:=H.rts.scale 4 Q (s*((J:Int)*t)) (by omega) hQ hn
    have e6:s*((J:Int)*((4*t+1:Nat):Int))=s*(J:Int)+((4:Nat):Int)*(s*((J:Int)*t)):=by
     rw[Int.natCast_add,Int.natCast_mul];grind
    rw[e6,H.rts.add _ _ _ n1 hn,e5,hJk]
    grind
  ·refine sumF_congr λt _=>?_
   have e5:=H.rts.scale 4 Q (s*((J:Int)*t)) (by omega) hQ hn
   have e7:rt (s*((J:Int)*((if t=0 then 4*Q-1 else 4*t-1:Nat):Int))) (4*Q)=rt (-(s*(J:Int))) (4*Q)*rt (((4:Nat):Int)*(s*((J:Int)*t))) (4*Q):=by
    rw[<-H.rts.add _ _ _ n1 hn]
    by_cases e:t=0
    ·rw[if_pos e]
     subst e
     have:s*((J:Int)*((4*Q-1:Nat):Int))=-(s*(J:Int))+((4:Nat):Int)*(s*((J:Int)*((0:Nat):Int)))+((4*Q:Nat):Int)*(s*J):=by
      rw[Int.natCast_sub (by omega),Int.natCast_mul];grind
     rw[this,H.rts.mod n1 hn]
    ·rw[if_neg e]
     congr 1
     rw[Int.natCast_sub (by omega),Int.natCast_mul];grind
   rw[e7,e5,hJk]
   grind
 rw[hd]
 have hev:∀a b:Nat,a%(2*Q)=b%(2*Q)->dft rt (2*Q) s (λk=>h (x (2*k))) a=dft rt (2*Q) s (λk=>h (x (2*k))) b:=λa b hab=>by
  unfold dft
  refine sumF_congr λt _=>?_
  congr 1
  rw[<-Int.natCast_mul,<-Int.natCast_mul]
  refine H.rts.red (by omega) h2Q s _ _ ?_
  rw[Nat.mul_mod,hab,<-Nat.mul_mod]
 have i2:rt (s*(Q:Int)) (4*Q)*rt (s*(Q:Int)) (4*Q)=-1:=by
  rw[<-H.rts.add _ _ _ n1 hn,<-H.rts.half h2 hs]
  have:=H.rts.scale (2*Q) 2 s (by omega) (by omega) (by rw[show 2*Q*2=4*Q from by omega];exact hn)
  rw[show 2*Q*2=4*Q from by omega] at this
  rw[<-this]
  congr 1
  rw[Int.natCast_mul];grind
 have i3:rt (-(s*(Q:Int))) (4*Q)=-rt (s*(Q:Int)) (4*Q):=by
  have e1:rt (-(s*(Q:Int))) (4*Q)*rt (s*(Q:Int)) (4*Q)=1:=by
   rw[<-H.rts.add _ _ _ n1 hn,<-H.rts.zero _ n1 hn]
   congr 1;omega
  grind
 have eneg:s*(-(k:Int))=-(s*(k:Int)):=by grind
 have hu4:u=0\/u=1\/u=2\/u=3:=by omega
 have hadd:∀w:Nat,rt (s*((k+w*Q:Nat):Int)) (4*Q)=rt (s*(k:Int)) (4*Q)*rt (s*((w:Int)*Q)) (4*Q):=λw=>by
  rw[<-H.rts.add _ _ _ n1 hn]
  congr 1
  rw[Int.natCast_add,Int.natCast_mul];grind
 have hsub:∀w:Nat,rt (-(s*((k+w*Q:Nat):Int))) (4*Q)=rt (-(s*(k:Int))) (4*Q)*rt (-(s*((w:Int)*Q))) (4*Q):=λw=>by
  rw[<-H.rts.add _ _ _ n1 hn]
  congr 1
  rw[Int.natCast_add,Int.natCast_mul];grind
 have p2:rt (s*(((2:Nat):Int)*Q)) (4*Q)=rt (s*(Q:Int)) (4*Q)*rt (s*(Q:Int)) (4*Q):=by
  rw[<-H.rts.add _ _ _ n1 hn];congr 1;grind
 have p3:rt (s*(((3:Nat):Int)*Q)) (4*Q)=rt (s*(Q:Int)) (4*Q)*(rt (s*(Q:Int)) (4*Q)*rt (s*(Q:Int)) (4*Q)):=by
  rw[<-H.rts.add _ _ _ n1 hn,<-H.rts.add _ _ _ n1 hn];congr 1;grind
 have m2:rt (-(s*(((2:Nat):Int)*Q))) (4*Q)=rt (-(s*(Q:Int))) (4*Q)*rt (-(s*(Q:Int))) (4*Q):=by
  rw[<-H.rts.add _ _ _ n1 hn];congr 1;grind
 have m3:rt (-(s*(((3:Nat):Int)*Q))) (4*Q)=rt (-(s*(Q:Int))) (4*Q)*(rt (-(s*(Q:Int))) (4*Q)*rt (-(s*(Q:Int))) (4*Q)):=by
  rw[<-H.rts.add _ _ _ n1 hn,<-H.rts.add _ _ _ n1 hn];congr 1;grind
 rw[eneg] at hvv
 generalize dft rt Q s (λk=>h (x (4*k+1))) k=zz at*
 generalize dft rt Q s (λk=>h (x (if k=0 then 4*Q-1 else 4*k-1))) k=yy at*
 rcases hu4 with rfl|rfl|rfl|rfl
 ·show h (R.add (e k) (R.add (uu k) (vv k)))=_
  rw[H.add,H.add,huu,hvv,he k (by omega),show k+0*Q=k from by omega]
  grind
 ·show h (R.add (e (k+Q)) (R.mul ii (R.sub (uu k) (vv k))))=_
  have a1:s*(((1:Nat):Int)*Q)=s*(Q:Int):=by grind
  rw[H.add,H.mul,H.sub,huu,hvv,hi,he (k+Q) (by omega),hadd,hsub,a1,i3,Nat.one_mul]
  grind
 ·show h (R.sub (e k) (R.add (uu k) (vv k)))=_
  rw[H.sub,H.add,huu,hvv,he k (by omega),hev (k+2*Q) k (by rw[Nat.add_mod_right]),hadd,hsub,p2,m2,i3,i2]
  grind
 ·show h (R.sub (e (k+Q)) (R.mul ii (R.sub (uu k) (vv k))))=_
  rw[H.sub,H.mul,H.sub,huu,hvv,hi,he (k+Q) (by omega),hev (k+3*Q) (k+Q) (by rw[show k+3*Q=k+Q+2*Q from by omega,Nat.add_mod_right]),hadd,hsub,p3,m3,i3,i2]
  grind
end
theorem surj_of{n:Nat}{s:Nat->Nat}(hm:∀k,k<n->s k<n)(hi:∀k l,k<n->l<n->s k=s l->k=l){y:Nat}(hy:y<n):∃k,k<n/\s k=y:=by
 induction n generalizing s y with
 |zero=>omega
 |succ n ih=>
   have hn:∃j,j<n+1/\s j=n:=by
    apply Classical.byContradiction
    intro hno
    exact sumF_perm.pigeon n s (λk hk=>by
     have:=hm k hk
     have:s k≠n:=λe=>hno ⟨k,hk,e⟩
     omega) hi
   obtain⟨j,hj,hjn⟩:=hn
   by_cases e:y=n
   ·exact⟨j,hj,by omega⟩
   ·obtain⟨k,hk,hky⟩:=ih (s:=λk=>if k=j then s n else s k) (y:=y)
      (λk hk=>by
       show(if k=j then s n else s k)<n
       by_cases e:k=j
       ·rw[if_pos e]
        have:=hm n (by omega)
        have:s n≠n:=λh=>by have:=hi n j (by omega) hj (by omega);omega
        omega
       ·rw[if_neg e]
        have:=hm k (by omega)
        have:s k≠n:=λh=>e (hi k j (by omega) hj (by omega))
        omega)
      (λk l hk hl h=>by
       by_cases e:k=j
       ·by_cases e2:l=j
        ·omega
        ·rw[if_pos e,if_neg e2] at h
         have:=hi n l (by omega) (by omega) h
         omega
       ·by_cases e2:l=j
        ·rw[if_neg e,if_pos e2] at h
         have:=hi k n (by omega) (by omega) h
         omega
        ·rw[if_neg e,if_neg e2] at h
         exact hi k l (by omega) (by omega) h)
      (by omega)
    by_cases e3:k=j
    ·exact⟨n,by omega,by rw[<-hky,if_pos e3]⟩
    ·exact⟨k,by omega,by rw[<-hky,if_neg e3]⟩
section
variable {KK : Type} [Lean.Grind.CommRing KK] {T : Type} {N : Nat} {rt : Int -> Nat -> KK} {R : Rg T} {h : T -> KK}
def cyc(m:Nat)(a b:Nat->KK)(k:Nat):KK:=sumF m λi=>a i*b ((k+m-i)%m)
theorem sumF_pick(n j:Nat)(f:Nat->KK)(hj:j<n)(h0:∀k,k<n->k≠j->f k=0):sumF n f=f j:=by
 rw[<-sumF_one n j f hj]
 refine sumF_congr λk hk=>?_
 by_cases e:k=j
 ·rw[if_pos e]
 ·rw[if_neg e,h0 k hk e]
theorem Rts.orth'(H:Rts N rt){m:Nat}(m1:1<=m)(hm:m∣N)(j:Int):sumF m (λk=>rt (j*k) m)=if(m:Int)∣j then sumF m (λ_=>1) else 0:=by
 by_cases e:(m:Int)∣j
 ·rw[if_pos e]
  obtain⟨t,rfl⟩:=e
  refine sumF_congr λk _=>?_
  rw[Int.mul_assoc]
  exact H.full m _ m1 hm
 ·rw[if_neg e];exact H.orth m j m1 hm e
theorem conv_cyc(H:Hom R N rt h){m:Nat}(m1:1<=m)(hm:m∣N)(K:Tr T)(hK:∀s,s=1\/s=-1->∀x j,j<m->h (K s x j)=dft rt m s (λk=>h (x k)) j)(a b:Nat->T)(k:Nat)(hk:k<m):h (convF R m K a b k)=cyc m (λi=>h (a i)) (λi=>h (b i)) k:=by
 have hsum:h (K (-1) (timesF R (K 1 a) (K 1 b)) k)=cyc m (λi=>h (a i)) (λi=>h (b i)) k*sumF m (λ_=>1):=by
  rw[hK (-1) (.inr rfl) _ _ hk]
  unfold dft cyc
  rw[<-sumF_right]
  have e1:∀j,j<m->h (timesF R (K 1 a) (K 1 b) j)*rt (-1*((k:Int)*j)) m=sumF m λi=>sumF m λl=>h (a i)*h (b l)*rt (((i:Int)+l-k)*j) m:=λj hj=>by
   unfold timesF
   rw[H.mul,hK 1 (.inl rfl) _ _ hj,hK 1 (.inl rfl) _ _ hj]
   unfold dft
   rw[Semiring.mul_assoc,<-sumF_right]
   refine sumF_congr λi _=>?_
   rw[<-sumF_right,<-sumF_left]
   refine sumF_congr λl _=>?_
   have e2:(((i:Int)+l-k)*j)=(1*((j:Int)*i))+((1*((j:Int)*l))+(-1*((k:Int)*j))):=by grind
   rw[e2,H.rts.add _ _ _ m1 hm,H.rts.add _ _ _ m1 hm]
   grind
  rw[sumF_congr e1,sumF_comm]
  refine sumF_congr λi hi=>?_
  rw[sumF_comm]
  have e3:∀l,l<m->sumF m (λj=>h (a i)*h (b l)*rt (((i:Int)+l-k)*j) m)=h (a i)*h (b l)*(if(m:Int)∣((i:Int)+l-k) then sumF m (λ_=>1) else 0):=λl _=>by
   rw[sumF_left,H.rts.orth' m1 hm]
  rw[sumF_congr e3]
  obtain⟨l0,hl0⟩:∃l0,(k+m-i)%m=l0:=⟨_,rfl⟩
  have hl0':l0<m:=by rw[<-hl0];exact Nat.mod_lt _ m1
  have hcase:(i<=k/\l0=k-i)\/(k<i/\l0=k+m-i):=by
   by_cases e:i<=k
   ·left
    refine⟨e,?_⟩
    rw[<-hl0,show k+m-i=(k-i)+m from by omega,Nat.add_mod_right,Nat.mod_eq_of_lt (by omega)]
   ·right
    refine⟨by omega,?_⟩
    rw[<-hl0,Nat.mod_eq_of_lt (by omega)]
  rw[sumF_pick m l0 _ hl0' λl hl hne=>?_]
  ·rw[if_pos]
   ·rw[hl0]
   ·rcases hcase with⟨e,rfl⟩|⟨e,rfl⟩
    ·exact⟨0,by omega⟩
    ·exact⟨1,by omega⟩
  ·rw[if_neg]
   ·grind
   ·rintro⟨t,ht⟩
    have t1:-2<t:=by
     apply Classical.byContradiction
     intro hh
     have:=Int.mul_le_mul_of_nonneg_left (show t<=-2 by omega) (show(0:Int)<=m by omega)
     omega
    have t2:t<2:=by
     apply Classical.byContradiction
     intro hh
     have:=Int.mul_le_mul_of_nonneg_left (show 2<=t by omega) (show(0:Int)<=m by omega)
     omega
    have:t=-1\/t=0\/t=1:=by omega
    rcases this with rfl|rfl|rfl<;>omega
 have ho:=H.over (K (-1) (timesF R (K 1 a) (K 1 b)) k) m m1 hm
 obtain⟨v,hi⟩:=H.inv m m1 hm
 show h (R.over (K (-1) (timesF R (K 1 a) (K 1 b)) k) m)=_
 rw[hsum] at ho
 grind
structure Pws(n:Nat)(pw:Nat->Nat):Prop where
 pos:∀k,k<n-1->1<=pw k
 lt:∀k,k<n-1->pw k<n
 inj:∀k l,k<n-1->l<n-1->pw k=pw l->k=l
 mul:∀k l,k<n-1->l<n-1->pw ((k+l)%(n-1))%n=pw k*pw l%n
theorem rader_dft(H:Hom R N rt h){n:Nat}(n3:3<=n)(hn:n∣N)(hm:n-1∣N){s:Int}(hs:s=1\/s=-1)(K:Tr T)(hK:∀s,s=1\/s=-1->∀x j,j<n-1->h (K s x j)=dft rt (n-1) s (λk=>h (x k)) j){pw:Nat->Nat}(P:Pws n pw)(x:Nat->T)(y:Nat)(hy:y<n):h (raderF R n pw K s x y)=dft rt n s (λk=>h (x k)) y:=by
 obtain⟨m,rfl⟩:∃m,n=m+1:=⟨n-1,by omega⟩
 have em:m+1-1=m:=rfl
 have hpos:=P.pos
 have hlt:=P.lt
 have hinj:=P.inj
 have hmul:=P.mul
 rw[em] at hpos hlt hinj hmul hm hK
 have m1:1<=m:=by omega
 unfold raderF
 rw[em]
 generalize hc:convF R m K (raderA pw x) (raderB R (m+1) s pw)=c
 have hplace:∀k,k<m->((m-k)%m=if k=0 then 0 else m-k):=λk hk=>by
  by_cases e:k=0
  ·rw[if_pos e,e,Nat.sub_zero,Nat.mod_self]
  ·rw[if_neg e,Nat.mod_eq_of_lt (by omega)]
 have hpl:∀k,k<m->(m-k)%m<m:=λk _=>Nat.mod_lt _ m1
 by_cases e0:y=0
 ·subst e0
  unfold raderO
  rw[em,fold_upd_ne m (λk=>pw ((m-k)%m)) (λk=>R.add (x 0) (c k)) _ 0 λk hk=>by have:=hpos _ (hpl k hk);omega]
  show h (sumT R (m+1) x)=_
  unfold sumT dft
  rw[H.fold]
  refine sumF_congr λk _=>?_
  have:s*(((0:Nat):Int)*(k:Int))=0:=by simp
  rw[this,H.rts.zero _ (by omega) hn]
  grind
 ·
  obtain⟨t,ht,hty⟩:∃t,t<m/\pw t-1=y-1:=surj_of (n:=m) (s:=λk=>pw k-1) (y:=y-1) (λk hk=>by have:=hlt k hk;have:=hpos k hk;omega) (λk l hk hl e=>hinj k l hk hl (by have:=hpos k hk;have:=hpos l hl;omega)) (by omega)
  have hty:pw t=y:=by have:=hpos t ht;omega
  obtain⟨k,hk,hkt⟩:∃k,k<m/\(m-k)%m=t:=by
   by_cases e:t=0
   ·exact⟨0,m1,by rw[Nat.sub_zero,Nat.mod_self,e]⟩
   ·exact⟨m-t,by omega,by rw[show m-(m-t)=t from by omega,Nat.mod_eq_of_lt ht]⟩
  have hev:raderO R (m+1) pw x c m y=R.add (x 0) (c k):=by
   unfold raderO
   rw[em]
   have:=fold_upd_at m (λk=>pw ((m-k)%m)) (λk=>R.add (x 0) (c k)) (updT (λ_=>R.zero) 0 (sumT R (m+1) x)) k hk λl hl e=>by
    have e2:=hinj _ _ (hpl l hl) (hpl k hk) e
    rw[hplace l hl,hplace k hk] at e2
    by_cases a:l=0
    ·by_cases b:k=0
     ·omega
     ·rw[if_pos a,if_neg b] at e2;omega
    ·by_cases b:k=0
     ·rw[if_neg a,if_pos b] at e2;omega
     ·rw[if_neg a,if_neg b] at e2;omega
   rw[hkt,hty] at this
   exact this
  rw[hev,H.add,<-hc,conv_cyc H m1 hm K hK _ _ k hk]
  unfold cyc dft
  have happ:sumF (m+1) (λk=>h (x k)*rt (s*((y:Int)*k)) (m+1))=sumF 1 (λk=>h (x k)*rt (s*((y:Int)*k)) (m+1))+sumF m (λk=>h (x (1+k))*rt (s*((y:Int)*((1+k:Nat):Int))) (m+1)):=by
   have:=sumF_app 1 m (λk=>h (x k)*rt (s*((y:Int)*k)) (m+1))
   rw[<-this,Nat.add_comm m 1]
  have z0:sumF 1 (λk=>h (x k)*rt (s*((y:Int)*k)) (m+1))=h (x 0):=by
   have:s*((y:Int)*((0:Nat):Int))=0:=by simp
   show 0+h (x 0)*rt (s*((y:Int)*((0:Nat):Int))) (m+1)=_
   rw[this,H.rts.zero _ (by omega) hn]
   grind
  rw[happ,z0]
  congr 1
  have hp:=sumF_perm m (λk=>pw k-1) (λk=>h (x (1+k))*rt (s*((y:Int)*((1+k:Nat):Int))) (m+1)) (λk hk=>by have:=hlt k hk;have:=hpos k hk;omega) (λk l hk hl e=>hinj k l hk hl (by have:=hpos k hk;have:=hpos l hl;omega))
  rw[<-hp]
  refine sumF_congr λi hi=>?_
  have e1:1+(pw i-1)=pw i:=by have:=hpos i hi;omega
  show h (x (pw i))*h (R.root (s*((pw ((m+1-1-(k+m-i)%m)%(m+1-1)):Nat):Int)) ((m+1:Nat):Int))=h (x (1+(pw i-1)))*rt (s*((y:Int)*((1+(pw i-1):Nat):Int))) (m+1)
  rw[e1,em,H.root _ _ (by omega) hn]
  congr 1
  rw[<-Int.natCast_mul]
  refine H.rts.red (by omega) hn s _ _ ?_
  rw[<-hty,<-hmul t i ht hi]
  congr 2
  rw[<-hkt]
  have hi1:(k+m-i)%m=if i<=k then k-i else k+m-i:=by
   by_cases e:i<=k
   ·rw[if_pos e,show k+m-i=(k-i)+m from by omega,Nat.add_mod_right,Nat.mod_eq_of_lt (by omega)]
   ·rw[if_neg e,Nat.mod_eq_of_lt (by omega)]
  rw[hi1,hplace k hk]
  by_cases e:i<=k
  ·rw[if_pos e]
   by_cases a:k=0
   ·subst a
    rw[if_pos rfl,show i=0 from by omega]
    simp
   ·rw[if_neg a]
    by_cases b:i=k
    ·rw[b,show m-k+k=m from by omega,show m-(k-k)=m from by omega]
    ·rw[show m-(k-i)=m-k+i from by omega]
  ·rw[if_neg e,show m-(k+m-i)=i-k from by omega]
   by_cases a:k=0
   ·rw[if_pos a,a];simp
   ·rw[if_neg a,show m-k+i=(i-k)+m from by omega,Nat.add_mod_right]
end
section
variable {T : Type} (R : Rg T)
theorem blueB_at(n m:Nat)(s:Int)(hm:2*n-1<=m)(n1:1<=n)(M:Nat)(hM:M<=n)(k:Nat)(hk:k<M):blueB R n m s M k=blueD R n s k/\blueB R n m s M ((m-k)%m)=blueD R n s k:=by
 induction M with
 |zero=>omega
 |succ M ih=>
   have e:∀y,blueB R n m s (M+1) y=if y=(m-M)%m then blueD R n s M else if y=M then blueD R n s M else blueB R n m s M y:=λ_=>rfl
   have hz:(m-0)%m=0:=by rw[Nat.sub_zero,Nat.mod_self]
   have hp:∀l,1<=l->l<m->(m-l)%m=m-l:=λl h1 h2=>Nat.mod_eq_of_lt (by omega)
   rw[e,e]
   by_cases a:k=M
   ·subst a
    rw[if_pos rfl,if_pos rfl]
    exact⟨by by_cases b:k=(m-k)%m
             ·rw[if_pos b]
             ·rw[if_neg b],rfl⟩
   ·obtain⟨h1,h2⟩:=ih (by omega) (by omega)
    rw[h1,h2]
    rw[hp M (by omega) (by omega),if_neg (by omega),if_neg (by omega)]
    refine⟨rfl,?_⟩
    by_cases b:k=0
    ·subst b
     rw[hz,if_neg (by omega),if_neg (by omega)]
    ·rw[hp k (by omega) (by omega),if_neg (by omega),if_neg (by omega)]
end
section
variable {KK : Type} [Lean.Grind.CommRing KK] {T : Type} {N : Nat} {rt : Int -> Nat -> KK} {R : Rg T} {h : T -> KK}
theorem sumF_part(n m:Nat)(hnm:n<=m)(f:Nat->KK)(h0:∀k,n<=k->k<m->f k=0):sumF m f=sumF n f:=by
 obtain⟨d,rfl⟩:∃d,m=n+d:=⟨m-n,by omega⟩
 rw[sumF_app,sumF_congr (n:=d) (g:=λ_=>0) λk hk=>h0 _ (by omega) (by omega),sumF_zero]
 grind
theorem blue_dft(H:Hom R N rt h){n m:Nat}(n1:1<=n)(hn:2*n∣N)(hm:m∣N)(hnm:2*n-1<=m){s:Int}(hs:s=1\/s=-1)(K:Tr T)(hK:∀s,s=1\/s=-1->∀x j,j<m->h (K s x j)=dft rt m s (λk=>h (x k)) j)(x:Nat->T)(y:Nat)(hy:y<n):h (blueF R n m K s x y)=dft rt n s (λk=>h (x k)) y:=by
 have m1:1<=m:=by omega
 have hn':n∣N:=Nat.dvd_trans (Nat.dvd_mul_left _ _) hn
 have hC:∀k,h (blueC R n s k)=rt (s*((k*k:Nat):Int)) (2*n):=λk=>by
  show h (R.root _ _)=_
  rw[H.root _ _ (by omega) hn]
  exact H.rts.red (by omega) hn s _ _ (by unfold sqr;rw[Nat.mod_mod])
 have hD:∀k,h (blueD R n s k)=rt (-s*((k*k:Nat):Int)) (2*n):=λk=>by
  show h (R.root _ _)=_
  rw[H.root _ _ (by omega) hn]
  have:s*(-((sqr n k:Nat):Int))=-s*((sqr n k:Nat):Int):=by grind
  rw[this]
  exact H.rts.red (by omega) hn (-s) _ _ (by unfold sqr;rw[Nat.mod_mod])
 unfold blueF timesF
 rw[H.mul,conv_cyc H m1 hm K hK _ _ y (by omega),hC]
 unfold cyc dft
 rw[sumF_part n m (by omega) _ λk h1 h2=>by
  show h (if k<n then _ else R.zero)*_=0
  rw[if_neg (by omega),H.zero];grind]
 rw[<-sumF_right]
 refine sumF_congr λk hk=>?_
 have hA:h (blueA R n s x n k)=h (x k)*rt (s*((k*k:Nat):Int)) (2*n):=by
  show h (if k<n then _ else R.zero)=_
  rw[if_pos hk,H.mul,hC]
 have hB:h (blueB R n m s n ((y+m-k)%m))=rt (-s*(((y:Int)-k)*((y:Int)-k))) (2*n):=by
  by_cases e:k<=y
  ·have e1:(y+m-k)%m=y-k:=by rw[show y+m-k=(y-k)+m from by omega,Nat.add_mod_right,Nat.mod_eq_of_lt (by omega)]
   rw[e1,(blueB_at R n m s hnm n1 n (Nat.le_refl _) (y-k) (by omega)).1,hD]
   congr 2
   rw[Int.natCast_mul,Int.natCast_sub e]
  ·have e1:(y+m-k)%m=(m-(k-y))%m:=by rw[show y+m-k=m-(k-y) from by omega]
   rw[e1,(blueB_at R n m s hnm n1 n (Nat.le_refl _) (k-y) (by omega)).2,hD]
   congr 2
   rw[Int.natCast_mul,Int.natCast_sub (by omega)]
   grind
 show h (blueA R n s x n k)*h (blueB R n m s n ((y+m-k)%m))*rt (s*((y*y:Nat):Int)) (2*n)=h (x k)*rt (s*((y:Int)*k)) n
 rw[hA,hB]
 have e5:=H.rts.scale 2 n (s*((y:Int)*k)) (by omega) n1 hn
 have e6:((2:Nat):Int)*(s*((y:Int)*k))=s*((k*k:Nat):Int)+(-s*(((y:Int)-k)*((y:Int)-k))+s*((y*y:Nat):Int)):=by
  rw[Int.natCast_mul,Int.natCast_mul];grind
 rw[<-e5,e6,H.rts.add _ _ _ (by omega) hn,H.rts.add _ _ _ (by omega) hn]
 grind
theorem split_dft(H:Hom R N rt h){s:Int}(hs:s=1\/s=-1)(f:Nat):∀n k,n=2^k->n<=f+1->n∣N->∀(x:Nat->T) (j:Nat),j<n->h (splitF R f n s x j)=dft rt n s (λk=>h (x k)) j:=by
 induction f with
 |zero=>
   intro n k hk hf hn x j hj
   exact direct_dft H (by omega) hn hs x j
 |succ f ih=>
   intro n k hk hf hn x j hj
   by_cases h4:n<4
   ·show h ((if n<4 then directF R n s x else _) j)=_
    rw[if_pos h4]
    exact direct_dft H (by omega) hn hs x j
   ·show h ((if n<4 then directF R n s x else _) j)=_
    rw[if_neg h4]
    obtain⟨t,rfl⟩:∃t,k=t+2:=⟨k-2,by
     have:¬k<2:=λhk2=>by
      have:k=0\/k=1:=by omega
      rcases this with rfl|rfl<;>omega
     omega⟩
    obtain⟨Q,hQ⟩:∃Q,2^t=Q:=⟨_,rfl⟩
    have e4:n=4*Q:=by rw[hk,<-hQ,Nat.pow_add];omega
    have hQ1:1<=Q:=by omega
    subst e4
    have d2:4*Q/2=2*Q:=by omega
    have d4:4*Q/4=Q:=by omega
    rw[d2,d4]
    refine split_step H hQ1 hn hs x _ _ _ _ (λj hj=>?_) (λj hj=>?_) (λj hj=>?_) j hj
    ·rw[ih (2*Q) (t+1) (by rw[Nat.pow_succ,hQ,Nat.mul_comm]) (by omega) (Nat.dvd_trans ⟨2,by omega⟩ hn) _ j hj]
     unfold dft gathT
     exact sumF_congr λi _=>by show h (x (0+i*2))*_=h (x (2*i))*_;rw[show 0+i*2=2*i from by omega]
    ·rw[ih Q t hQ.symm (by omega) (Nat.dvd_trans (Nat.dvd_mul_left _ _) hn) _ j hj]
     unfold dft gathT
     exact sumF_congr λi _=>by show h (x (1+i*4))*_=h (x (4*i+1))*_;rw[show 1+i*4=4*i+1 from by omega]
    ·rw[ih Q t hQ.symm (by omega) (Nat.dvd_trans (Nat.dvd_mul_left _ _) hn) _ j hj]
     unfold dft consT gathT
     refine sumF_congr λi _=>?_
     show h (if i=0 then _ else x (3+(i-1)*4))*_=h (x (if i=0 then _ else _))*_
     by_cases e:i=0
     ·rw[if_pos e,if_pos e]
     ·rw[if_neg e,if_neg e,show 3+(i-1)*4=4*i-1 from by omega]
end
end CG
end Go.Proofs.YtfedabinindpbaaGreat
namespace Go.Proofs.YtfedabinindpbaaGreat
namespace CG
structure CC where
 re:RR
 im:RR
theorem CC.ext{a b:CC}(h:a.re=b.re)(k:a.im=b.im):a=b:=by cases a;cases b;cases h;cases k;rfl
def CC.of(r:RR):CC:=⟨r,0⟩
def CC.mul(a b:CC):CC:=⟨a.re*b.re-a.im*b.im,a.re*b.im+a.im*b.re⟩
def CC.pow(x:CC):Nat->CC
 |0=>CC.of 1
 |n+1=>CC.mul (CC.pow x n) x
instance:NatCast CC:=⟨λn=>CC.of n⟩
instance:IntCast CC:=⟨λn=>CC.of n⟩
instance (n:Nat):OfNat CC n:=⟨CC.of (n:RR)⟩
instance:Add CC:=⟨λa b=>⟨a.re+b.re,a.im+b.im⟩⟩
instance:Mul CC:=⟨CC.mul⟩
instance:Neg CC:=⟨λa=>⟨-a.re,-a.im⟩⟩
instance:Sub CC:=⟨λa b=>⟨a.re-b.re,a.im-b.im⟩⟩
instance:HPow CC Nat CC:=⟨CC.pow⟩
instance:SMul Nat CC:=⟨λn a=>CC.mul (CC.of n) a⟩
instance:SMul Int CC:=⟨λn a=>CC.mul (CC.of n) a⟩
theorem RR.nat_succ(n:Nat):((n+1:Nat):RR)=(n:RR)+1:=by
 show RR.of ((n+1:Nat):Rat)=RR.of ((n:Rat)+((1:Nat):Rat));congr 1;grind
theorem RR.int_neg(i:Int):((-i:Int):RR)=-(i:RR):=by
 show RR.of ((-i:Int):Rat)=RR.of (-(i:Rat));rw[Rat.intCast_neg]
theorem RR.int_nat(n:Nat):(((n:Nat):Int):RR)=(n:RR):=by
 show RR.of (((n:Nat):Int):Rat)=RR.of (n:Rat);rw[Rat.intCast_natCast]
theorem CC.add_re(a b:CC):(a+b).re=a.re+b.re:=rfl
theorem CC.add_im(a b:CC):(a+b).im=a.im+b.im:=rfl
theorem CC.sub_re(a b:CC):(a-b).re=a.re-b.re:=rfl
theorem CC.sub_im(a b:CC):(a-b).im=a.im-b.im:=rfl
theorem CC.neg_re(a:CC):(-a).re=-a.re:=rfl
theorem CC.neg_im(a:CC):(-a).im=-a.im:=rfl
theorem CC.mul_re(a b:CC):(a*b).re=a.re*b.re-a.im*b.im:=rfl
theorem CC.mul_im(a b:CC):(a*b).im=a.re*b.im+a.im*b.re:=rfl
theorem CC.zero_re:(0:CC).re=0:=rfl
theorem CC.zero_im:(0:CC).im=0:=rfl
theorem CC.one_re:(1:CC).re=1:=rfl
theorem CC.one_im:(1:CC).im=0:=rfl
theorem CC.of_re(r:RR):(CC.of r).re=r:=rfl
theorem CC.of_im(r:RR):(CC.of r).im=0:=rfl
instance:Lean.Grind.CommRing CC where
 add_zero a:=CC.ext (by show a.re+0=a.re;grind) (by show a.im+0=a.im;grind)
 add_comm a b:=CC.ext (by show a.re+b.re=b.re+a.re;grind) (by show a.im+b.im=b.im+a.im;grind)
 add_assoc a b c:=CC.ext (by show a.re+b.re+c.re=a.re+(b.re+c.re);grind) (by show a.im+b.im+c.im=a.im+(b.im+c.im);grind)
 mul_assoc a b c:=CC.ext (by simp only[CC.mul_re,CC.mul_im];grind) (by simp only[CC.mul_re,CC.mul_im];grind)
 mul_one a:=CC.ext (by show a.re*1-a.im*0=a.re;grind) (by show a.re*0+a.im*1=a.im;grind)
 one_mul a:=CC.ext (by show 1*a.re-0*a.im=a.re;grind) (by show 1*a.im+0*a.re=a.im;grind)
 mul_comm a b:=CC.ext (by simp only[CC.mul_re,CC.mul_im];grind) (by simp only[CC.mul_re,CC.mul_im];grind)
 left_distrib a b c:=CC.ext (by simp only[CC.mul_re,CC.mul_im,CC.add_re,CC.add_im];grind) (by simp only[CC.mul_re,CC.mul_im,CC.add_re,CC.add_im];grind)
 right_distrib a b c:=CC.ext (by simp only[CC.mul_re,CC.mul_im,CC.add_re,CC.add_im];grind) (by simp only[CC.mul_re,CC.mul_im,CC.add_re,CC.add_im];grind)
 zero_mul a:=CC.ext (by show 0*a.re-0*a.im=0;grind) (by show 0*a.im+0*a.re=0;grind)
 mul_zero a:=CC.ext (by show a.re*0-a.im*0=0;grind) (by show a.re*0+a.im*0=0;grind)
 pow_zero a:=rfl
 pow_succ a n:=rfl
 ofNat_succ n:=CC.ext (by show((n+1:Nat):RR)=(n:RR)+1;exact RR.nat_succ n) (by show(0:RR)=0+0;grind)
 neg_add_cancel a:=CC.ext (by show-a.re+a.re=0;grind) (by show-a.im+a.im=0;grind)
 sub_eq_add_neg a b:=CC.ext (by show a.re-b.re=a.re+-b.re;grind) (by show a.im-b.im=a.im+-b.im;grind)
 neg_zsmul i a:=CC.ext (by show((-i:Int):RR)*a.re-0*a.im=-(((i:Int):RR)*a.re-0*a.im);rw[RR.int_neg];grind) (by show((-i:Int):RR)*a.im+0*a.re=-(((i:Int):RR)*a.im+0*a.re);rw[RR.int_neg];grind)
 zsmul_natCast_eq_nsmul n a:=CC.ext (by show(((n:Nat):Int):RR)*a.re-0*a.im=((n:Nat):RR)*a.re-0*a.im;rw[RR.int_nat]) (by show(((n:Nat):Int):RR)*a.im+0*a.re=((n:Nat):RR)*a.im+0*a.re;rw[RR.int_nat])
 intCast_neg i:=CC.ext (by show((-i:Int):RR)=-(i:RR);exact RR.int_neg i) (by show(0:RR)=-0;grind)
 intCast_ofNat n:=CC.ext (by show(((n:Nat):Int):RR)=(n:RR);exact RR.int_nat n) rfl
def CC.conj(a:CC):CC:=⟨a.re,-a.im⟩
def nsq(a:CC):RR:=a.re*a.re+a.im*a.im
theorem nsq_nonneg(a:CC):0<=nsq a:=by
 have h1:=RR.sq_nonneg a.re
 have h2:=RR.sq_nonneg a.im
 unfold nsq
 grind
theorem nsq_mul(a b:CC):nsq (a*b)=nsq a*nsq b:=by
 unfold nsq
 simp only[CC.mul_re,CC.mul_im]
 grind
theorem nsq_neg(a:CC):nsq (-a)=nsq a:=by
 unfold nsq
 simp only[CC.neg_re,CC.neg_im]
 grind
theorem nsq_zero:nsq 0=0:=by
 unfold nsq
 simp only[CC.zero_re,CC.zero_im]
 grind
theorem nsq_of(r:RR):nsq (CC.of r)=r*r:=by
 unfold nsq
 simp only[CC.of_re,CC.of_im]
 grind
theorem sq_zero{x:RR}(h:x*x=0):x=0:=by
 apply Classical.byContradiction
 intro hn
 rcases Std.IsLinearPreorder.le_total 0 x with k|k
 ·have h1:(0:RR)<x:=by grind
  have:=RR.mul_lt h1 h1
  grind
 ·have h1:(0:RR)< -x:=by grind
  have:=RR.mul_lt h1 h1
  grind
theorem nsq_eq_zero{a:CC}(h:nsq a=0):a=0:=by
 unfold nsq at h
 have h1:=RR.sq_nonneg a.re
 have h2:=RR.sq_nonneg a.im
 exact CC.ext (sq_zero (by grind)) (sq_zero (by grind))
theorem conj_mul(a b:CC):(a*b).conj=a.conj*b.conj:=by
 refine CC.ext ?_ ?_<;>(unfold CC.conj;simp only[CC.mul_re,CC.mul_im];grind)
theorem conj_add(a b:CC):(a+b).conj=a.conj+b.conj:=by
 refine CC.ext ?_ ?_<;>(unfold CC.conj;simp only[CC.add_re,CC.add_im];try grind)
theorem conj_zero:(0:CC).conj=0:=by
 refine CC.ext ?_ ?_<;>(unfold CC.conj;simp only[CC.zero_re,CC.zero_im];try grind)
theorem mul_conj(a:CC):a*a.conj=CC.of (nsq a):=by
 refine CC.ext ?_ ?_<;>(unfold CC.conj CC.of nsq;simp only[CC.mul_re,CC.mul_im];grind)
theorem of_add(a b:RR):CC.of (a+b)=CC.of a+CC.of b:=CC.ext rfl (by show(0:RR)=0+0;grind)
theorem of_mul(a b:RR):CC.of (a*b)=CC.of a*CC.of b:=by
 refine CC.ext ?_ ?_<;>(unfold CC.of;simp only[CC.mul_re,CC.mul_im];grind)
theorem of_inj{a b:RR}(h:CC.of a=CC.of b):a=b:=congrArg CC.re h
theorem of_zero:CC.of 0=0:=rfl
theorem of_one:CC.of 1=1:=rfl
theorem nsq_add{α β:RR}(ha:0<=α)(hb:0<=β)(a b:CC):α*β*nsq (a+b)<=(α+β)*(β*nsq a+α*nsq b):=by
 have h1:=RR.sq_nonneg (β*a.re-α*b.re)
 have h2:=RR.sq_nonneg (β*a.im-α*b.im)
 unfold nsq
 simp only[CC.add_re,CC.add_im]
 grind
theorem sumR_le{n:Nat}{f g:Nat->RR}(h:∀k,k<n->f k<=g k):sumF n f<=sumF n g:=by
 induction n with
 |zero=>rw[sumF_nil,sumF_nil];grind
 |succ n ih=>
   rw[sumF_succ,sumF_succ]
   have h1:=ih λk hk=>h k (by omega)
   have h2:=h n (by omega)
   grind
theorem sumR_nonneg{n:Nat}{f:Nat->RR}(h:∀k,k<n->0<=f k):0<=sumF n f:=by
 have:=sumR_le (n:=n) (f:=λ_=>0) (g:=f) h
 rwa [sumF_zero] at this
theorem sumR_const(n:Nat)(c:RR):sumF n (λ_=>c)=(n:RR)*c:=by
 induction n with
 |zero=>rw[sumF_nil];show(0:RR)=(0:RR)*c;grind
 |succ n ih=>rw[sumF_succ,ih,RR.nat_succ];grind
theorem sumR_term{n:Nat}{f:Nat->RR}(h:∀k,k<n->0<=f k){j:Nat}(hj:j<n):f j<=sumF n f:=by
 induction n with
 |zero=>omega
 |succ n ih=>
   rw[sumF_succ]
   have h0:=sumR_nonneg (n:=n) (f:=f) λk hk=>h k (by omega)
   have h1:=h n (by omega)
   by_cases e:j=n
   ·subst e;grind
   ·have:=ih (λk hk=>h k (by omega)) (by omega)
    grind
theorem of_sum(n:Nat)(f:Nat->RR):CC.of (sumF n f)=sumF n λk=>CC.of (f k):=by
 induction n with
 |zero=>rfl
 |succ n ih=>rw[sumF_succ,of_add,ih,sumF_succ]
theorem conj_sum(n:Nat)(f:Nat->CC):(sumF n f).conj=sumF n λk=>(f k).conj:=by
 induction n with
 |zero=>rw[sumF_nil,sumF_nil];exact conj_zero
 |succ n ih=>rw[sumF_succ,conj_add,ih,sumF_succ]
def nS(n:Nat)(f:Nat->CC):RR:=sumF n λk=>nsq (f k)
theorem nS_nonneg(n:Nat)(f:Nat->CC):0<=nS n f:=sumR_nonneg λk _=>nsq_nonneg _
theorem nS_congr{n:Nat}{f g:Nat->CC}(h:∀k,k<n->f k=g k):nS n f=nS n g:=sumF_congr λk hk=>by rw[h k hk]
theorem nS_term{n:Nat}{f:Nat->CC}{j:Nat}(hj:j<n):nsq (f j)<=nS n f:=sumR_term (f:=λk=>nsq (f k)) (λk _=>nsq_nonneg _) hj
theorem mul_cancel_le{a b c:RR}(hc:0<c)(h:c*a<=c*b):a<=b:=by
 apply Classical.byContradiction
 intro hn
 have h1:b<a:=by grind
 have:=RR.mul_lt h1 hc
 grind
theorem mul_le_l{a b c:RR}(hc:0<=c)(h:a<=b):c*a<=c*b:=by
 have:=RR.mul_nn hc (show(0:RR)<=b-a by grind)
 grind
theorem nS_tri{n:Nat}{f g:Nat->CC}{α β A:RR}(ha:0<α)(hb:0<β)(hf:nS n f<=α*α*A)(hg:nS n g<=β*β*A):nS n (λk=>f k+g k)<=(α+β)*(α+β)*A:=by
 have h1:α*β*nS n (λk=>f k+g k)<=(α+β)*(β*nS n f+α*nS n g):=by
  unfold nS
  rw[<-sumF_left,<-sumF_left,<-sumF_left,<-sumF_add,<-sumF_left]
  exact sumR_le λk _=>nsq_add (by grind) (by grind) _ _
 have h2:=mul_le_l (c:=β) (by grind) hf
 have h3:=mul_le_l (c:=α) (by grind) hg
 have h4:(α+β)*(β*nS n f+α*nS n g)<=(α+β)*(β*(α*α*A)+α*(β*β*A)):=mul_le_l (by grind) (by grind)
 have h5:0<α*β:=by
  have:=RR.mul_lt hb ha
  grind
 refine mul_cancel_le h5 ?_
 grind
theorem nsq_tri{a b:CC}{α β A:RR}(ha:0<α)(hb:0<β)(hf:nsq a<=α*α*A)(hg:nsq b<=β*β*A):nsq (a+b)<=(α+β)*(α+β)*A:=by
 have:=nS_tri (n:=1) (f:=λ_=>a) (g:=λ_=>b) (A:=A) ha hb (by unfold nS;rw[sumF_succ,sumF_nil];grind) (by unfold nS;rw[sumF_succ,sumF_nil];grind)
 unfold nS at this
 rw[sumF_succ,sumF_nil] at this
 grind
end CG
end Go.Proofs.YtfedabinindpbaaGreat
namespace Go.Proofs.YtfedabinindpbaaGreat
namespace CG
theorem sumC_one(n:Nat):sumF n (λ_=>(1:CC))=CC.of (n:RR):=by
 induction n with
 |zero=>rfl
 |succ n ih=>rw[sumF_succ,ih,RR.nat_succ,of_add];rfl
theorem dft_sub(rt:Int->Nat->CC)(n:Nat)(s:Int)(x y:Nat->CC)(j:Nat):dft rt n s (λk=>x k-y k) j=dft rt n s x j-dft rt n s y j:=by
 unfold dft
 have e:∀k,(x k-y k)*rt (s*((j:Int)*(k:Nat))) n=x k*rt (s*((j:Int)*(k:Nat))) n+(-1)*(y k*rt (s*((j:Int)*(k:Nat))) n):=λk=>by grind
 rw[sumF_congr λk _=>e k,sumF_add,sumF_left]
 grind
theorem dft_add(rt:Int->Nat->CC)(n:Nat)(s:Int)(x y:Nat->CC)(j:Nat):dft rt n s (λk=>x k+y k) j=dft rt n s x j+dft rt n s y j:=by
 unfold dft
 have e:∀k,(x k+y k)*rt (s*((j:Int)*(k:Nat))) n=x k*rt (s*((j:Int)*(k:Nat))) n+y k*rt (s*((j:Int)*(k:Nat))) n:=λk=>by grind
 rw[sumF_congr λk _=>e k,sumF_add]
theorem dft_congr(rt:Int->Nat->CC){n:Nat}(s:Int){x y:Nat->CC}(h:∀k,k<n->x k=y k)(j:Nat):dft rt n s x j=dft rt n s y j:=sumF_congr λk hk=>by rw[h k hk]
section
variable {N : Nat} {rt : Int -> Nat -> CC}
theorem sub_dvd{n k l:Nat}(hk:k<n)(hl:l<n){s:Int}(hs:s=1\/s=-1)(hd:(n:Int)∣s*((k:Int)-l)):k=l:=by
 have hd2:(n:Int)∣((k:Int)-l):=by
  rcases hs with rfl|rfl
  ·rwa [Int.one_mul] at hd
  ·rw[show(-1:Int)*((k:Int)-l)=-((k:Int)-l) from by omega] at hd
   exact(Int.dvd_neg).1 hd
 obtain⟨c,hc⟩:=hd2
 have h3:-(n:Int)<(k:Int)-l/\(k:Int)-l<n:=by omega
 rw[hc] at h3
 have hc0:c=0:=by
  rcases Int.lt_trichotomy c 0 with h4|h4|h4
  ·have:(n:Int)*c<=(n:Int)*(-1):=Int.mul_le_mul_of_nonneg_left (by omega) (by omega)
   omega
  ·exact h4
  ·have:(n:Int)*1<=(n:Int)*c:=Int.mul_le_mul_of_nonneg_left (by omega) (by omega)
   omega
 rw[hc0,Int.mul_zero] at hc
 omega
theorem parseval(H:Rts N rt)(hc:∀n a,1<=n->n∣N->(rt a n).conj=rt (-a) n){n:Nat}(n1:1<=n)(hn:n∣N){s:Int}(hs:s=1\/s=-1)(x:Nat->CC):nS n (dft rt n s x)=(n:RR)*nS n x:=by
 refine of_inj ?_
 unfold nS
 rw[of_mul,of_sum,of_sum]
 have e1:∀j,CC.of (nsq (dft rt n s x j))=sumF n λk=>sumF n λl=>x k*(x l).conj*rt ((s*((k:Int)-l))*(j:Nat)) n:=λj=>by
  rw[<-mul_conj]
  unfold dft
  rw[conj_sum,<-sumF_right]
  refine sumF_congr λk _=>?_
  rw[<-sumF_left]
  refine sumF_congr λl _=>?_
  rw[conj_mul,hc n _ n1 hn]
  have:s*((k:Int)-l)*(j:Nat)=s*((j:Int)*(k:Nat))+-(s*((j:Int)*(l:Nat))):=by grind
  rw[this,H.add n _ _ n1 hn]
  grind
 rw[sumF_congr λj _=>e1 j,sumF_comm,<-sumF_left]
 refine sumF_congr λk hk=>?_
 rw[sumF_comm]
 have e2:∀l,l<n->sumF n (λj=>x k*(x l).conj*rt ((s*((k:Int)-l))*(j:Nat)) n)=if l=k then x k*(x l).conj*CC.of (n:RR) else 0:=λl hl=>by
  rw[sumF_left,H.orth' n1 hn]
  by_cases h:l=k
  ·subst h
   rw[if_pos rfl,if_pos (by rw[Int.sub_self,Int.mul_zero];exact Int.dvd_zero _),sumC_one]
  ·rw[if_neg h,if_neg λhd=>h (sub_dvd hk hl hs hd).symm]
   grind
 rw[sumF_congr e2,sumF_pick n k _ hk (λl hl hne=>if_neg hne),if_pos rfl,mul_conj]
 grind
theorem parseval_sub(H:Rts N rt)(hc:∀n a,1<=n->n∣N->(rt a n).conj=rt (-a) n){n:Nat}(n1:1<=n)(hn:n∣N){s:Int}(hs:s=1\/s=-1)(x y:Nat->CC):nS n (λj=>dft rt n s x j-dft rt n s y j)=(n:RR)*nS n (λk=>x k-y k):=by
 rw[<-parseval H hc n1 hn hs]
 exact nS_congr λj _=>(dft_sub rt n s x y j).symm
end
end CG
end Go.Proofs.YtfedabinindpbaaGreat
namespace Go.Proofs.YtfedabinindpbaaGreat
def te(x:Rat):Nat->Rat
 |0=>1
 |j+1=>te x j*x/((j:Rat)+1)
def sm(f:Nat->Rat):Nat->Rat
 |0=>f 0
 |n+1=>sm f n+f (n+1)
def sc:Nat->Rat×Rat
 |0=>(1,0)
 |m+1=>(-(sc m).2,(sc m).1)
theorem sm_add(f g:Nat->Rat):∀n,sm (λj=>f j+g j) n=sm f n+sm g n
 |0=>rfl
 |n+1=>by simp only[sm];rw[sm_add f g n];grind
theorem sm_congr(f g:Nat->Rat):∀n,(∀j,j<=n->f j=g j)->sm f n=sm g n
 |0,h=>h 0 (Nat.le_refl _)
 |n+1,h=>by simp only[sm];rw[sm_congr f g n (λj hj=>h j (by omega)),h (n+1) (Nat.le_refl _)]
theorem sm_mulr(f:Nat->Rat)(c:Rat):∀n,sm (λj=>f j*c) n=sm f n*c
 |0=>rfl
 |n+1=>by simp only[sm];rw[sm_mulr f c n];grind
theorem sm_mull(f:Nat->Rat)(c:Rat):∀n,sm (λj=>c*f j) n=c*sm f n
 |0=>rfl
 |n+1=>by simp only[sm];rw[sm_mull f c n];grind
theorem sm_shift(f:Nat->Rat):∀n,sm f (n+1)=f 0+sm (λj=>f (j+1)) n
 |0=>rfl
 |n+1=>by
   show sm f (n+1)+f (n+2)=f 0+(sm (λj=>f (j+1)) n+f (n+2))
   rw[sm_shift f n];grind
theorem sm_mul(f g:Nat->Rat)(m n:Nat):sm f m*sm g n=sm (λj=>sm (λk=>f j*g k) n) m:=by
 rw[<-sm_mulr]
 apply sm_congr
 intro j _
 rw[sm_mull]
theorem sm_le(f F:Nat->Rat)(h:∀k,-F k<=f k/\f k<=F k):∀n,-sm F n<=sm f n/\sm f n<=sm F n
 |0=>h 0
 |n+1=>by
   have h1:=sm_le f F h n
   have h2:=h (n+1)
   simp only[sm]
   constructor<;>grind
theorem sm_tail(f F:Nat->Rat)(h:∀k,-F k<=f k/\f k<=F k)(m:Nat):∀d,-(sm F (m+d)-sm F m)<=sm f (m+d)-sm f m/\sm f (m+d)-sm f m<=sm F (m+d)-sm F m
 |0=>by constructor<;>grind
 |d+1=>by
   have h1:=sm_tail f F h m d
   have h2:=h (m+d+1)
   have e:∀f:Nat->Rat,sm f (m+(d+1))=sm f (m+d)+f (m+d+1):=λf=>rfl
   rw[e,e]
   constructor<;>grind
theorem sm_sub(f g:Nat->Rat):∀n,sm (λj=>f j-g j) n=sm f n-sm g n
 |0=>rfl
 |n+1=>by simp only[sm];rw[sm_sub f g n];grind
theorem nat_pos(j:Nat):(0:Rat)<(j:Rat)+1:=by
 have:(0:Rat)<=(j:Rat):=Rat.natCast_nonneg
 grind
theorem te_succ(x:Rat)(j:Nat):((j:Rat)+1)*te x (j+1)=x*te x j:=by
 have h:=nat_pos j
 show((j:Rat)+1)*(te x j*x/((j:Rat)+1))=x*te x j
 grind
def am(x y:Rat)(m:Nat):Rat:=sm (λj=>te x j*te y (m-j)) m
theorem am_succ(x y:Rat)(m:Nat):((m:Rat)+1)*am x y (m+1)=(x+y)*am x y m:=by
 have e1:((m:Rat)+1)*am x y (m+1)=sm (λj=>(j:Rat)*(te x j*te y (m+1-j))) (m+1)+sm (λj=>((m+1-j:Nat):Rat)*(te x j*te y (m+1-j))) (m+1):=by
  unfold am
  rw[<-sm_mull,<-sm_add]
  apply sm_congr
  intro j hj
  have e:((m+1-j:Nat):Rat)+(j:Rat)=(m:Rat)+1:=by
   rw[<-Rat.natCast_add,show m+1-j+j=m+1 by omega,Rat.natCast_add];rfl
  rw[<-e]
  grind
 have e2:sm (λj=>(j:Rat)*(te x j*te y (m+1-j))) (m+1)=x*am x y m:=by
  rw[sm_shift]
  unfold am
  rw[<-sm_mull]
  have:((0:Nat):Rat)*(te x 0*te y (m+1-0))=0:=by
   have:((0:Nat):Rat)=0:=rfl
   rw[this];grind
  rw[this,Rat.zero_add]
  apply sm_congr
  intro j hj
  have h:=te_succ x j
  rw[show m+1-(j+1)=m-j by omega,Rat.natCast_add]
  have:((1:Nat):Rat)=1:=rfl
  rw[this]
  grind
 have e3:sm (λj=>((m+1-j:Nat):Rat)*(te x j*te y (m+1-j))) (m+1)=y*am x y m:=by
  show sm (λj=>((m+1-j:Nat):Rat)*(te x j*te y (m+1-j))) m+((m+1-(m+1):Nat):Rat)*(te x (m+1)*te y (m+1-(m+1)))=_
  have:((m+1-(m+1):Nat):Rat)=0:=by rw[Nat.sub_self];rfl
  rw[this,Rat.zero_mul,Rat.add_zero]
  unfold am
  rw[<-sm_mull]
  apply sm_congr
  intro j hj
  have h:=te_succ y (m-j)
  rw[show m+1-j=(m-j)+1 by omega,Rat.natCast_add]
  have:((1:Nat):Rat)=1:=rfl
  rw[this]
  grind
 rw[e1,e2,e3]
 grind
theorem cancR{a b c:Rat}(hc:0<c)(h:c*a=c*b):a=b:=by
 have:c≠0:=by grind
 grind
theorem am_eq(x y:Rat):∀m,am x y m=te (x+y) m
 |0=>Rat.mul_one 1
 |m+1=>by
   have h1:=am_succ x y m
   have h2:=te_succ (x+y) m
   rw[am_eq x y m] at h1
   exact cancR (nat_pos m) (h1.trans h2.symm)
def sq(g:Nat->Nat->Rat)(n:Nat):Rat:=sm (λj=>sm (g j) n) n
def tri(g:Nat->Nat->Rat)(n:Nat):Rat:=sm (λj=>sm (g j) (n-j)) n
theorem tri_eq(g:Nat->Nat->Rat):∀n,tri g n=sm (λm=>sm (λj=>g j (m-j)) m) n
 |0=>rfl
 |n+1=>by
   have ih:=tri_eq g n
   have e:tri g (n+1)=tri g n+sm (λj=>g j (n+1-j)) (n+1):=by
    show sm (λj=>sm (g j) (n+1-j)) n+sm (g (n+1)) (n+1-(n+1))=tri g n+(sm (λj=>g j (n+1-j)) n+g (n+1) (n+1-(n+1)))
    rw[Nat.sub_self]
    have e1:sm (λj=>sm (g j) (n+1-j)) n=tri g n+sm (λj=>g j (n+1-j)) n:=by
     unfold tri
     rw[<-sm_add]
     apply sm_congr
     intro j hj
     rw[show n+1-j=(n-j)+1 by omega]
     rfl
    rw[e1]
    show _+g (n+1) 0=_
    grind
   rw[e,ih]
   rfl
theorem sq_tri(g G:Nat->Nat->Rat)(h:∀j k,-G j k<=g j k/\g j k<=G j k)(n:Nat):-(sq G n-tri G n)<=sq g n-tri g n/\sq g n-tri g n<=sq G n-tri G n:=by
 unfold sq tri
 rw[<-sm_sub,<-sm_sub]
 have key:∀j,j<=n->-(sm (G j) n-sm (G j) (n-j))<=sm (g j) n-sm (g j) (n-j)/\sm (g j) n-sm (g j) (n-j)<=sm (G j) n-sm (G j) (n-j):=by
  intro j hj
  have:=sm_tail (g j) (G j) (h j) (n-j) j
  rwa [show n-j+j=n by omega] at this
 have:∀(f F:Nat->Rat) (n:Nat),(∀j,j<=n->-F j<=f j/\f j<=F j)->-sm F n<=sm f n/\sm f n<=sm F n:=by
  intro f F n
  induction n with
  |zero=>intro h;exact h 0 (Nat.le_refl _)
  |succ n ih=>
    intro h
    have h1:=ih (λj hj=>h j (by omega))
    have h2:=h (n+1) (Nat.le_refl _)
    simp only[sm]
    constructor<;>grind
 exact this _ _ n key
theorem sc_add(j:Nat):∀k,(sc (j+k)).1=(sc j).1*(sc k).1-(sc j).2*(sc k).2/\(sc (j+k)).2=(sc j).2*(sc k).1+(sc j).1*(sc k).2
 |0=>by simp only[sc,Nat.add_zero];constructor<;>grind
 |k+1=>by
   obtain⟨h1,h2⟩:=sc_add j k
   show-(sc (j+k)).2=_/\(sc (j+k)).1=_
   simp only[sc]
   constructor<;>grind
theorem sc_le:∀m,(-1<=(sc m).1/\(sc m).1<=1)/\(-1<=(sc m).2/\(sc m).2<=1)
 |0=>by simp only[sc];decide+kernel
 |m+1=>by
   have:=sc_le m
   simp only[sc]
   grind
def cN(n:Nat)(x:Rat):Rat:=sm (λm=>(sc m).1*te x m) n
def sN(n:Nat)(x:Rat):Rat:=sm (λm=>(sc m).2*te x m) n
theorem te_nonneg{x:Rat}(h:0<=x):∀j,0<=te x j
 |0=>by show(0:Rat)<=1;decide+kernel
 |j+1=>by
   have h1:=te_succ x j
   have h2:=Rat.mul_nonneg h (te_nonneg h j)
   have h3:=nat_pos j
   apply Decidable.byContradiction
   intro hc
   have h4:0< -te x (j+1):=by grind
   have h5:=Rat.mul_pos h3 h4
   grind
theorem mbR{a b A B:Rat}(h1:-A<=a)(h2:a<=A)(h3:-B<=b)(h4:b<=B):-(A*B)<=a*b/\a*b<=A*B:=by
 have p1:=Rat.mul_nonneg (show 0<=A-a by grind) (show 0<=B-b by grind)
 have p2:=Rat.mul_nonneg (show 0<=A-a by grind) (show 0<=B+b by grind)
 have p3:=Rat.mul_nonneg (show 0<=A+a by grind) (show 0<=B-b by grind)
 have p4:=Rat.mul_nonneg (show 0<=A+a by grind) (show 0<=B+b by grind)
 constructor<;>grind
theorem te_le{x X:Rat}(h1:-X<=x)(h2:x<=X):∀j,-te X j<=te x j/\te x j<=te X j
 |0=>by show-(1:Rat)<=1/\(1:Rat)<=1;decide+kernel
 |j+1=>by
   obtain⟨a1,a2⟩:=te_le h1 h2 j
   have p:=mbR a1 a2 h1 h2
   have e1:=te_succ x j
   have e2:=te_succ X j
   have h3:=nat_pos j
   constructor
   ·apply Decidable.byContradiction
    intro hc
    have h4:0< -te X (j+1)-te x (j+1):=by grind
    have h5:=Rat.mul_pos h3 h4
    grind
   ·apply Decidable.byContradiction
    intro hc
    have h4:0<te x (j+1)-te X (j+1):=by grind
    have h5:=Rat.mul_pos h3 h4
    grind
def tau(n:Nat)(X Y:Rat):Rat:=sm (te X) n*sm (te Y) n-sm (te (X+Y)) n
theorem prod_gen{x y X Y:Rat}(hx1:-X<=x)(hx2:x<=X)(hy1:-Y<=y)(hy2:y<=Y)(n:Nat)(s:Nat->Rat)(hs:∀m,-1<=s m/\s m<=1):
  -tau n X Y<=sm (λj=>sm (λk=>s (j+k)*(te x j*te y k)) n) n-sm (λm=>s m*te (x+y) m) n/\sm (λj=>sm (λk=>s (j+k)*(te x j*te y k)) n) n-sm (λm=>s m*te (x+y) m) n<=tau n X Y:=by
 have h:=sq_tri (λj k=>s (j+k)*(te x j*te y k)) (λj k=>te X j*te Y k) (λj k=>by
  obtain⟨a1,a2⟩:=te_le hx1 hx2 j
  obtain⟨b1,b2⟩:=te_le hy1 hy2 k
  have p:=mbR a1 a2 b1 b2
  have q:=mbR (hs (j+k)).1 (hs (j+k)).2 p.1 p.2
  rw[Rat.one_mul] at q
  exact q) n
 have e1:tri (λj k=>te X j*te Y k) n=sm (te (X+Y)) n:=by
  rw[tri_eq];exact sm_congr _ _ n (λm _=>am_eq X Y m)
 have e2:sq (λj k=>te X j*te Y k) n=sm (te X) n*sm (te Y) n:=(sm_mul _ _ n n).symm
 have e3:tri (λj k=>s (j+k)*(te x j*te y k)) n=sm (λm=>s m*te (x+y) m) n:=by
  rw[tri_eq]
  apply sm_congr
  intro m _
  rw[<-am_eq]
  unfold am
  rw[<-sm_mull]
  apply sm_congr
  intro j hj
  show s (j+(m-j))*_=_
  rw[show j+(m-j)=m by omega]
 rw[e1,e2,e3] at h
 exact h
theorem add_cos{x y X Y:Rat}(hx1:-X<=x)(hx2:x<=X)(hy1:-Y<=y)(hy2:y<=Y)(n:Nat):
  -tau n X Y<=cN n x*cN n y-sN n x*sN n y-cN n (x+y)/\cN n x*cN n y-sN n x*sN n y-cN n (x+y)<=tau n X Y:=by
 have h:=prod_gen hx1 hx2 hy1 hy2 n (λm=>(sc m).1) (λm=>(sc_le m).1)
 have e:sm (λj=>sm (λk=>(sc (j+k)).1*(te x j*te y k)) n) n=cN n x*cN n y-sN n x*sN n y:=by
  unfold cN sN
  rw[sm_mul,sm_mul,<-sm_sub]
  apply sm_congr
  intro j _
  rw[<-sm_sub]
  apply sm_congr
  intro k _
  rw[(sc_add j k).1]
  grind
 rw[e] at h
 exact h
theorem add_sin{x y X Y:Rat}(hx1:-X<=x)(hx2:x<=X)(hy1:-Y<=y)(hy2:y<=Y)(n:Nat):
  -tau n X Y<=sN n x*cN n y+cN n x*sN n y-sN n (x+y)/\sN n x*cN n y+cN n x*sN n y-sN n (x+y)<=tau n X Y:=by
 have h:=prod_gen hx1 hx2 hy1 hy2 n (λm=>(sc m).2) (λm=>(sc_le m).2)
 have e:sm (λj=>sm (λk=>(sc (j+k)).2*(te x j*te y k)) n) n=sN n x*cN n y+cN n x*sN n y:=by
  unfold cN sN
  rw[sm_mul,sm_mul,<-sm_add]
  apply sm_congr
  intro j _
  rw[<-sm_add]
  apply sm_congr
  intro k _
  rw[(sc_add j k).2]
  grind
 rw[e] at h
 exact h
theorem neg_terms(x:Rat):∀j,(sc j).1*te (-x) j=(sc j).1*te x j/\(sc j).2*te (-x) j=-((sc j).2*te x j)
 |0=>by simp only[sc,te];constructor<;>grind
 |j+1=>by
   obtain⟨h1,h2⟩:=neg_terms x j
   have e1:=te_succ x j
   have e2:=te_succ (-x) j
   have h3:=nat_pos j
   simp only[sc]
   have n3:(j:Rat)+1≠0:=by grind
   have f1:te x (j+1)=te x j*x/((j:Rat)+1):=rfl
   have f2:te (-x) (j+1)=te (-x) j*(-x)/((j:Rat)+1):=rfl
   rw[f1,f2]
   constructor<;>grind
theorem cos_neg(n:Nat)(x:Rat):cN n (-x)=cN n x:=sm_congr _ _ n (λj _=>(neg_terms x j).1)
theorem sin_neg(n:Nat)(x:Rat):sN n (-x)=-sN n x:=by
 have e:-sN n x=sm (λm=>-1*((sc m).2*te x m)) n:=by rw[sm_mull];unfold sN;grind
 rw[e]
 apply sm_congr
 intro j _
 rw[(neg_terms x j).2];grind
abbrev co(x:Rat):Rat:=cN 90 x
abbrev si(x:Rat):Rat:=sN 90 x
def piE:Rat:=(1043973226625944089706719114415889436:Rat)/1329227995784915872903807060280344576
def eps:Rat:=1/1298074214633706907132624082305024
theorem tau_small:tau 90 (63/10) (63/10)<=eps:=by decide+kernel
theorem quarter_cs:(-eps<=co (2*piE)/\co (2*piE)<=eps)/\(1-eps<=si (2*piE)/\si (2*piE)<=1+eps):=by decide+kernel
namespace CG
theorem te_half{X:Rat}(hX:0<=X){j:Nat}(h:2*X<=(j:Rat)+1):te X (j+1)<=te X j/2:=by
 have e:=te_succ X j
 have h0:=te_nonneg hX j
 have h1:=te_nonneg hX (j+1)
 have h2:=nat_pos j
 have h3:=Rat.mul_nonneg (a:=(j:Rat)+1-2*X) (b:=te X j) (by grind) h0
 apply Classical.byContradiction
 intro hn
 have h4:=Rat.mul_pos (a:=(j:Rat)+1) (b:=te X (j+1)-te X j/2) h2 (by grind)
 grind
theorem sm_mono{f:Nat->Rat}(h:∀k,0<=f k)(n:Nat):∀d,sm f n<=sm f (n+d)
 |0=>by show sm f n<=sm f n;grind
 |d+1=>by
   have h1:=sm_mono h n d
   have h2:=h (n+d+1)
   show sm f n<=sm f (n+d)+f (n+d+1)
   grind
theorem sm_lele{f g:Nat->Rat}:∀n,(∀k,k<=n->f k<=g k)->sm f n<=sm g n
 |0,h=>h 0 (Nat.le_refl _)
 |n+1,h=>by
   have h1:=sm_lele (f:=f) (g:=g) n λk hk=>h k (by omega)
   have h2:=h (n+1) (Nat.le_refl _)
   show sm f n+f (n+1)<=sm g n+g (n+1)
   grind
theorem tail_te{X:Rat}(hX:0<=X){n:Nat}(h:2*X<=(n:Rat)+2):∀d,sm (te X) (n+d)-sm (te X) n<=2*te X (n+1)-2*te X (n+d+1)
 |0=>by show sm (te X) n-sm (te X) n<=2*te X (n+1)-2*te X (n+1);grind
 |d+1=>by
   have h1:=tail_te hX h d
   have hd:(0:Rat)<=(d:Rat):=by exact Rat.natCast_nonneg
   have h2:=te_half hX (j:=n+d+1) (by
    have:((n+d+1:Nat):Rat)=(n:Rat)+(d:Rat)+1:=by grind
    rw[this];grind)
   show sm (te X) (n+d)+te X (n+d+1)-sm (te X) n<=2*te X (n+1)-2*te X (n+d+1+1)
   grind
theorem tail_cs{x X:Rat}(hX:0<=X)(h1:-X<=x)(h2:x<=X){n:Nat}(h:2*X<=(n:Rat)+2)(d:Nat)(s:Nat->Rat)(hs:∀m,-1<=s m/\s m<=1):
  -(2*te X (n+1))<=sm (λm=>s m*te x m) (n+d)-sm (λm=>s m*te x m) n/\sm (λm=>s m*te x m) (n+d)-sm (λm=>s m*te x m) n<=2*te X (n+1):=by
 have h3:=tail_te hX h d
 have h4:=te_nonneg hX (n+d+1)
 have h5:=sm_tail (λm=>s m*te x m) (te X) (λm=>by
  have:=mbR (hs m).1 (hs m).2 (te_le h1 h2 m).1 (te_le h1 h2 m).2
  rw[Rat.one_mul] at this
  exact this) n d
 constructor<;>grind
def er(n:Nat):Rat:=2*te (126/5) (n+1)
theorem er_nn(n:Nat):0<=er n:=by
 have:=te_nonneg (x:=126/5) (by grind) (n+1)
 unfold er
 grind
theorem er_half{n:Nat}(h:50<=n):er (n+1)<=er n/2:=by
 have hn:(50:Rat)<=(n:Rat):=by have:=Rat.natCast_le_natCast.2 h;exact this
 have:=te_half (X:=126/5) (by grind) (j:=n+1) (by
  have:((n+1:Nat):Rat)=(n:Rat)+1:=by grind
  rw[this];grind)
 unfold er
 grind
theorem cs_tail{x:Rat}(h1:-(126/5)<=x)(h2:x<=126/5){n:Nat}(h:50<=n)(d:Nat):
  (-er n<=cN (n+d) x-cN n x/\cN (n+d) x-cN n x<=er n)/\(-er n<=sN (n+d) x-sN n x/\sN (n+d) x-sN n x<=er n):=by
 have hn:(50:Rat)<=(n:Rat):=by have:=Rat.natCast_le_natCast.2 h;exact this
 have hl:2*(126/5:Rat)<=(n:Rat)+2:=by grind
 exact⟨tail_cs (by grind) h1 h2 hl d (λm=>(sc m).1) (λm=>(sc_le m).1),tail_cs (by grind) h1 h2 hl d (λm=>(sc m).2) (λm=>(sc_le m).2)⟩
theorem tau_er{n:Nat}(h:50<=n):tau n (63/5) (63/5)<=er n:=by
 have hn:(50:Rat)<=(n:Rat):=by have:=Rat.natCast_le_natCast.2 h;exact this
 have hte:∀j,0<=te (63/5) j:=te_nonneg (by grind)
 have hg:∀j k,0<=te (63/5) j*te (63/5) k:=λj k=>Rat.mul_nonneg (hte j) (hte k)
 have e1:sm (te (63/5)) n*sm (te (63/5)) n=sm (λj=>sm (λk=>te (63/5) j*te (63/5) k) n) n:=sm_mul _ _ n n
 have e2:tri (λj k=>te (63/5) j*te (63/5) k) (n+n)=sm (te (63/5+63/5)) (n+n):=by
  rw[tri_eq];exact sm_congr _ _ (n+n) (λm _=>am_eq (63/5) (63/5) m)
 have h1:sm (λj=>sm (λk=>te (63/5) j*te (63/5) k) n) n<=tri (λj k=>te (63/5) j*te (63/5) k) (n+n):=by
  unfold tri
  have a:=sm_lele (f:=λj=>sm (λk=>te (63/5) j*te (63/5) k) n) (g:=λj=>sm (λk=>te (63/5) j*te (63/5) k) (n+n-j)) n (λj hj=>by
   obtain⟨d,hd⟩:∃d,n+n-j=n+d:=⟨n-j,by omega⟩
   show sm (λk=>te (63/5) j*te (63/5) k) n<=sm (λk=>te (63/5) j*te (63/5) k) (n+n-j)
   rw[hd]
   exact sm_mono (λk=>hg j k) n d)
  have b:=sm_mono (f:=λj=>sm (λk=>te (63/5) j*te (63/5) k) (n+n-j)) (λj=>by
   have:=sm_mono (f:=λk=>te (63/5) j*te (63/5) k) (λk=>hg j k) 0 (n+n-j)
   have h0:sm (λk=>te (63/5) j*te (63/5) k) 0=te (63/5) j*te (63/5) 0:=rfl
   have:=hg j 0
   rw[Nat.zero_add] at*
   grind) n n
  grind
 have h2:=tail_te (X:=63/5+63/5) (by grind) (n:=n) (by grind) n
 have h3:=te_nonneg (x:=63/5+63/5) (by grind) (n+n+1)
 have h4:(63/5+63/5:Rat)=126/5:=by grind
 unfold tau er
 rw[h4] at*
 grind
theorem cs_add{x y:Rat}(hx1:-(63/5)<=x)(hx2:x<=63/5)(hy1:-(63/5)<=y)(hy2:y<=63/5){n:Nat}(h:50<=n):
  (-er n<=cN n x*cN n y-sN n x*sN n y-cN n (x+y)/\cN n x*cN n y-sN n x*sN n y-cN n (x+y)<=er n)/\(-er n<=sN n x*cN n y+cN n x*sN n y-sN n (x+y)/\sN n x*cN n y+cN n x*sN n y-sN n (x+y)<=er n):=by
 have h1:=add_cos hx1 hx2 hy1 hy2 n
 have h2:=add_sin hx1 hx2 hy1 hy2 n
 have h3:=tau_er h
 refine⟨⟨?_,?_⟩,?_,?_⟩<;>grind
theorem cN_zero(x:Rat):cN 0 x=1:=by show(1:Rat)*1=1;grind
theorem sN_one(x:Rat):sN 1 x=x:=by
 have e:te x 1=x:=by have:=te_succ x 0;have e0:te x 0=1:=rfl;rw[e0] at this;grind
 show(0:Rat)*1+1*te x 1=x
 rw[e];grind
theorem te_one(x:Rat):te x 1=x:=by have:=te_succ x 0;have e0:te x 0=1:=rfl;rw[e0] at this;grind
theorem te_two(x:Rat):te x 2=x*x/2:=by have:=te_succ x 1;rw[te_one] at this;grind
theorem te_three(x:Rat):te x 3=x*x*x/6:=by have:=te_succ x 2;rw[te_two] at this;grind
theorem small_cs{c C:Rat}(h0:0<=C)(hC:C<=1)(h1:-C<=c)(h2:c<=C)(n:Nat):(-(2*C)<=cN n c-1/\cN n c-1<=2*C)/\(-(C*C)<=sN (n+1) c-c/\sN (n+1) c-c<=C*C):=by
 have a:=tail_cs h0 h1 h2 (n:=0) (by have:((0:Nat):Rat)=0:=rfl;rw[this];grind) n (λm=>(sc m).1) (λm=>(sc_le m).1)
 have b:=tail_cs h0 h1 h2 (n:=1) (by have:((1:Nat):Rat)=1:=rfl;rw[this];grind) n (λm=>(sc m).2) (λm=>(sc_le m).2)
 have e1:sm (λm=>(sc m).1*te c m) (0+n)=cN n c:=by rw[Nat.zero_add];rfl
 have e2:sm (λm=>(sc m).1*te c m) 0=1:=cN_zero c
 have e3:sm (λm=>(sc m).2*te c m) (1+n)=sN (n+1) c:=by rw[Nat.add_comm];rfl
 have e4:sm (λm=>(sc m).2*te c m) 1=c:=sN_one c
 rw[e1,e2,te_one] at a
 rw[e3,e4,te_two] at b
 refine⟨a,?_,?_⟩<;>grind
theorem circle_er{x:Rat}(h1:-(63/5)<=x)(h2:x<=63/5){n:Nat}(h:50<=n)(he:er n<=1):(-er n<=cN n x*cN n x+sN n x*sN n x-1/\cN n x*cN n x+sN n x*sN n x-1<=er n)/\(-2<=cN n x/\cN n x<=2)/\(-2<=sN n x/\sN n x<=2):=by
 have a:=(cs_add h1 h2 (y:=-x) (by grind) (by grind) h).1
 rw[cos_neg,sin_neg,show x+-x=0 by grind] at a
 have b:=(small_cs (c:=0) (C:=0) (by grind) (by grind) (by grind) (by grind) n).1
 have c1:=ratsq (cN n x)
 have c2:=ratsq (sN n x)
 have key:-er n<=cN n x*cN n x+sN n x*sN n x-1/\cN n x*cN n x+sN n x*sN n x-1<=er n:=by constructor<;>grind
 have bd:∀t:Rat,t*t<=2->-2<=t/\t<=2:=λt ht=>by
  constructor
  ·apply Classical.byContradiction
   intro hn
   have:=Rat.mul_pos (a:=-t-2) (b:=-t-2) (by grind) (by grind)
   grind
  ·apply Classical.byContradiction
   intro hn
   have:=Rat.mul_pos (a:=t-2) (b:=t-2) (by grind) (by grind)
   grind
 exact⟨key,bd _ (by grind),bd _ (by grind)⟩
theorem step_cs{a d D:Rat}(h1:-(63/5)<=a)(h2:a<=63/5)(D0:0<=D)(D1:D<=1)(d1:-D<=d)(d2:d<=D){n:Nat}(h:50<=n)(he:er n<=1):
  (-(8*D+er n)<=cN n (a+d)-cN n a/\cN n (a+d)-cN n a<=8*D+er n)/\(-(8*D+er n)<=sN n (a+d)-sN n a/\sN n (a+d)-sN n a<=8*D+er n):=by
 obtain⟨m,rfl⟩:∃m,n=m+1:=⟨n-1,by omega⟩
 have a1:=cs_add h1 h2 (y:=d) (by grind) (by grind) h
 have a2:=(small_cs D0 D1 d1 d2 (m+1)).1
 have a3:=(small_cs D0 D1 d1 d2 m).2
 obtain⟨-,b1,b2⟩:=circle_er h1 h2 h he
 have e:D*D<=D:=by have:=Rat.mul_nonneg (a:=D) (b:=1-D) D0 (by grind);grind
 have m1:=mulle (A:=2) (B:=2*D) b1.1 b1.2 a2.1 a2.2
 have m2:=mulle (A:=2) (B:=2*D) b2.1 b2.2 a2.1 a2.2
 have m3:=mulle (a:=cN (m+1) a) (b:=sN (m+1) d) (A:=2) (B:=2*D) b1.1 b1.2 (by grind) (by grind)
 have m4:=mulle (a:=sN (m+1) a) (b:=sN (m+1) d) (A:=2) (B:=2*D) b2.1 b2.2 (by grind) (by grind)
 refine⟨⟨?_,?_⟩,?_,?_⟩<;>grind
def yy:Nat->Rat
 |0=>2*piE
 |i+1=>yy i+cN (200+i) (yy i)
def ka:Nat->Rat
 |0=>2*eps
 |i+1=>ka i/2
theorem ka_pos:∀i,0<ka i
 |0=>by show(0:Rat)<2*eps;decide+kernel
 |i+1=>by have:=ka_pos i;show 0<ka i/2;grind
theorem ka_le:∀i,ka i<=2*eps
 |0=>by show 2*eps<=2*eps;grind
 |i+1=>by have:=ka_pos i;have:=ka_le i;show ka i/2<=2*eps;grind
theorem er_ka:∀i,er (200+i)<=ka i/16
 |0=>by show er 200<=2*eps/16;decide+kernel
 |i+1=>by
   have h1:=er_ka i
   have h2:=er_half (n:=200+i) (by omega)
   show er (200+i+1)<=ka i/2/16
   grind
theorem eps_small:0<eps/\eps<=1/1000000:=by decide+kernel
theorem tail_90:2*te (63/10) 91<=eps:=by decide+kernel
theorem pi_bd:7853/10000<=piE/\piE<=78540/100000:=by decide+kernel
theorem at_90{x:Rat}(h1:-(63/10)<=x)(h2:x<=63/10)(d:Nat):(-eps<=cN (90+d) x-cN 90 x/\cN (90+d) x-cN 90 x<=eps)/\(-eps<=sN (90+d) x-sN 90 x/\sN (90+d) x-sN 90 x<=eps):=by
 have t:=tail_90
 have hl:2*(63/10:Rat)<=((90:Nat):Rat)+2:=by decide+kernel
 have a:=tail_cs (by grind) h1 h2 hl d (λm=>(sc m).1) (λm=>(sc_le m).1)
 have b:=tail_cs (by grind) h1 h2 hl d (λm=>(sc m).2) (λm=>(sc_le m).2)
 refine⟨⟨?_,?_⟩,?_,?_⟩<;>first|(unfold cN;grind)|(unfold sN;grind)
structure YI(i:Nat):Prop where
 c:-ka i<=cN (200+i) (yy i)/\cN (200+i) (yy i)<=ka i
 s:-(60*eps-8*ka i)<=sN (200+i) (yy i)-1/\sN (200+i) (yy i)-1<=60*eps-8*ka i
 y:-(4*eps-2*ka i)<=yy i-2*piE/\yy i-2*piE<=4*eps-2*ka i
theorem YI.bd{i:Nat}(h:YI i):15/10<=yy i/\yy i<=15709/10000:=by
 have:=h.y
 have:=ka_pos i
 have:=eps_small
 have:=pi_bd
 constructor<;>grind
theorem yi_zero:YI 0:=by
 obtain⟨⟨q1,q2⟩,q3,q4⟩:=quarter_cs
 have p:=pi_bd
 have a:=at_90 (x:=2*piE) (by grind) (by grind) 110
 have e:90+110=200+0:=rfl
 rw[e] at a
 have k:ka 0=2*eps:=rfl
 have y:yy 0=2*piE:=rfl
 have:=eps_small
 unfold co at q1 q2
 unfold si at q3 q4
 refine⟨?_,?_,?_⟩<;>rw[k,y]<;>constructor<;>grind
theorem yi_succ{i:Nat}(h:YI i):YI (i+1):=by
 obtain⟨b1,b2⟩:=h.bd
 obtain⟨⟨c1,c2⟩,⟨s1,s2⟩,y1,y2⟩:=h
 have kp:=ka_pos i
 have kl:=ka_le i
 have ek:=er_ka i
 have es:=eps_small
 have hy:yy (i+1)=yy i+cN (200+i) (yy i):=rfl
 have hk:ka (i+1)=ka i/2:=rfl
 have he:er (200+i)<=1:=by grind
 have a1:=cs_add (x:=yy i) (y:=cN (200+i) (yy i)) (by grind) (by grind) (by grind) (by grind) (n:=200+i) (by omega)
 have a2:=(small_cs (c:=cN (200+i) (yy i)) (C:=ka i) (by grind) (by grind) c1 c2 (200+i)).1
 have a3:=(small_cs (c:=cN (200+i) (yy i)) (C:=ka i) (by grind) (by grind) c1 c2 (199+i)).2
 rw[show 199+i+1=200+i by omega] at a3
 have t:=cs_tail (x:=yy (i+1)) (by rw[hy];grind) (by rw[hy];grind) (n:=200+i) (by omega) 1
 rw[<-hy] at a1
 rw[show 200+i+1=200+(i+1) by omega] at t
 suffices H:(-ka (i+1)<=cN (200+(i+1)) (yy (i+1))/\cN (200+(i+1)) (yy (i+1))<=ka (i+1))/\(-(60*eps-8*ka (i+1))<=sN (200+(i+1)) (yy (i+1))-1/\sN (200+(i+1)) (yy (i+1))-1<=60*eps-8*ka (i+1))/\(-(4*eps-2*ka (i+1))<=yy (i+1)-2*piE/\yy (i+1)-2*piE<=4*eps-2*ka (i+1)) from⟨H.1,H.2.1,H.2.2⟩
 generalize cN (200+i) (yy (i+1))=C1 at*
 generalize sN (200+i) (yy (i+1))=S1 at*
 generalize cN (200+(i+1)) (yy (i+1))=C2 at*
 generalize sN (200+(i+1)) (yy (i+1))=S2 at*
 rw[hy]
 generalize cN (200+i) (yy i)=c at*
 generalize sN (200+i) (yy i)=s at*
 generalize cN (200+i) c=u at*
 generalize sN (200+i) c=v at*
 generalize er (200+i)=E at*
 have kk:ka i*ka i<=ka i/1000:=by
  have:=Rat.mul_nonneg (a:=ka i) (b:=1/1000-ka i) (by grind) (by grind)
  grind
 have m1:=mulle (a:=c) (b:=u-1) (A:=ka i) (B:=2*ka i) c1 c2 a2.1 a2.2
 have m2:=mulle (a:=s-1) (b:=v) (A:=60*eps) (B:=2*ka i) (by grind) (by grind) (by grind) (by grind)
 have m3:=mulle (a:=s-1) (b:=u-1) (A:=60*eps) (B:=2*ka i) (by grind) (by grind) (by grind) (by grind)
 have m4:=mulle (a:=c) (b:=v) (A:=ka i) (B:=2*ka i) c1 c2 (by grind) (by grind)
 have ee:eps*ka i<=ka i/1000000:=by
  have:=Rat.mul_nonneg (a:=ka i) (b:=1/1000000-eps) (by grind) (by grind)
  grind
 refine⟨?_,?_,?_⟩
 ·rw[hk];constructor<;>grind
 ·rw[hk];constructor<;>grind
 ·rw[hk];constructor<;>grind
theorem yi:∀i,YI i
 |0=>yi_zero
 |i+1=>yi_succ (yi i)
end CG
end Go.Proofs.YtfedabinindpbaaGreat
namespace Go.Proofs.YtfedabinindpbaaGreat
namespace CG
theorem arch{e:Rat}(he:0<e):∃n:Nat,1<(n:Rat)*e:=by
 have h0:0<e⁻¹:=Rat.inv_pos.2 he
 have h1:=Rat.lt_floor_add_one e⁻¹
 have hi:e⁻¹*e=1:=Rat.inv_mul_cancel e (by grind)
 have h2:0<=(e⁻¹).floor:=Rat.le_floor_iff.2 (by show((0:Int):Rat)<=e⁻¹;grind)
 refine⟨((e⁻¹).floor+1).toNat,?_⟩
 have e1:((((e⁻¹).floor+1).toNat:Nat):Rat)=(((e⁻¹).floor+1:Int):Rat):=by
  rw[<-Rat.intCast_natCast,Int.toNat_of_nonneg (by omega)]
 rw[e1]
 have:=Rat.mul_pos (a:=(((e⁻¹).floor+1:Int):Rat)-e⁻¹) (b:=e) (by grind) he
 grind
theorem ka_inv:∀i:Nat,ka i*((i:Rat)+1)<=2*eps
 |0=>by show 2*eps*(((0:Nat):Rat)+1)<=2*eps;have:((0:Nat):Rat)=0:=rfl;rw[this];grind
 |i+1=>by
   have h:=ka_inv i
   have h1:=ka_pos i
   have h2:(0:Rat)<=(i:Rat):=Rat.natCast_nonneg
   have h3:=Rat.mul_nonneg (a:=ka i) (b:=(i:Rat)) (by grind) h2
   have e:((i+1:Nat):Rat)=(i:Rat)+1:=by grind
   show ka i/2*(((i+1:Nat):Rat)+1)<=2*eps
   rw[e]
   grind
theorem ka_anti(i:Nat):∀d,ka (i+d)<=ka i
 |0=>by show ka i<=ka i;grind
 |d+1=>by have:=ka_anti i d;have:=ka_pos (i+d);show ka (i+d)/2<=ka i;grind
theorem ka_ev{e:Rat}(he:0<e):∃N,∀i,N<=i->ka i<=e:=by
 obtain⟨n,hn⟩:=arch he
 refine⟨n,λi hi=>?_⟩
 obtain⟨d,rfl⟩:∃d,i=n+d:=⟨i-n,by omega⟩
 have h1:=ka_anti n d
 have h2:=ka_inv n
 have h3:=eps_small
 have h4:(0:Rat)<=(n:Rat):=Rat.natCast_nonneg
 apply Classical.byContradiction
 intro hc
 have h5:=Rat.mul_nonneg (a:=ka n-e) (b:=(n:Rat)) (by grind) h4
 have:=ka_pos n
 grind
theorem seq_far{f:Nat->Rat}{K:Rat}(h:∀i,-(K*ka i)<=f (i+1)-f i/\f (i+1)-f i<=K*ka i)(i:Nat):∀d,-(2*K*ka i-2*K*ka (i+d))<=f (i+d)-f i/\f (i+d)-f i<=2*K*ka i-2*K*ka (i+d)
 |0=>by show-(2*K*ka i-2*K*ka i)<=f i-f i/\f i-f i<=2*K*ka i-2*K*ka i;constructor<;>grind
 |d+1=>by
   have h1:=seq_far h i d
   have h2:=h (i+d)
   have e:ka (i+(d+1))=ka (i+d)/2:=rfl
   have e2:f (i+(d+1))=f (i+d+1):=rfl
   rw[e,e2]
   constructor<;>grind
theorem seq_cau{f:Nat->Rat}{K:Rat}(hK:0<K)(h:∀i,-(K*ka i)<=f (i+1)-f i/\f (i+1)-f i<=K*ka i):∀e:Rat,0<e->∃N,∀i j,N<=i->N<=j->f i<=f j+e:=λe he=>by
 obtain⟨h0,h1⟩:=scale_pos he (A:=2*K) (by grind)
 obtain⟨N,hN⟩:=ka_ev h0
 refine⟨N,λi j hi hj=>?_⟩
 obtain⟨d,rfl⟩:∃d,i=N+d:=⟨i-N,by omega⟩
 obtain⟨c,rfl⟩:∃c,j=N+c:=⟨j-N,by omega⟩
 have a:=(seq_far h N d).2
 have b:=(seq_far h N c).1
 have k1:=Rat.mul_pos hK (ka_pos (N+d))
 have k2:=Rat.mul_pos hK (ka_pos (N+c))
 have k3:=Rat.mul_nonneg (a:=2*K) (b:=e/(2*(2*K))-ka N) (by grind) (by have:=hN N (Nat.le_refl _);grind)
 grind
def an(x:Rat)(i:Nat):Rat:=4*x*yy i
theorem an_bd{x:Rat}(h1:-2<=x)(h2:x<=2)(i:Nat):-(63/5)<=an x i/\an x i<=63/5:=by
 obtain⟨b1,b2⟩:=(yi i).bd
 have:=mulle (a:=x) (b:=yy i) (A:=2) (B:=15709/10000) h1 h2 (by grind) b2
 unfold an
 constructor<;>grind
theorem an_step{x:Rat}(h1:-2<=x)(h2:x<=2)(i:Nat):
  (-(66*ka i)<=cN (200+(i+1)) (an x (i+1))-cN (200+i) (an x i)/\cN (200+(i+1)) (an x (i+1))-cN (200+i) (an x i)<=66*ka i)/\
  (-(66*ka i)<=sN (200+(i+1)) (an x (i+1))-sN (200+i) (an x i)/\sN (200+(i+1)) (an x (i+1))-sN (200+i) (an x i)<=66*ka i):=by
 obtain⟨b1,b2⟩:=an_bd h1 h2 i
 obtain⟨b3,b4⟩:=an_bd h1 h2 (i+1)
 obtain⟨c1,c2⟩:=(yi i).c
 have kp:=ka_pos i
 have kl:=ka_le i
 have ek:=er_ka i
 have es:=eps_small
 have en:=er_nn (200+i)
 have m:=mulle (a:=x) (b:=cN (200+i) (yy i)) (A:=2) (B:=ka i) h1 h2 c1 c2
 have e:an x (i+1)=an x i+4*(x*cN (200+i) (yy i)):=by
  have:yy (i+1)=yy i+cN (200+i) (yy i):=rfl
  unfold an
  rw[this]
  grind
 have s:=step_cs (a:=an x i) (d:=4*(x*cN (200+i) (yy i))) (D:=8*ka i) b1 b2 (by grind) (by grind) (by grind) (by grind) (n:=200+i) (by omega) (by grind)
 rw[<-e] at s
 have t:=cs_tail (x:=an x (i+1)) (by grind) (by grind) (n:=200+i) (by omega) 1
 rw[show 200+i+1=200+(i+1) by omega] at t
 refine⟨⟨?_,?_⟩,?_,?_⟩<;>grind
def cSq(x:Rat)(h1:-2<=x)(h2:x<=2):CSq:=⟨λi=>cN (200+i) (an x i),seq_cau (K:=66) (by grind) λi=>(an_step h1 h2 i).1⟩
def sSq(x:Rat)(h1:-2<=x)(h2:x<=2):CSq:=⟨λi=>sN (200+i) (an x i),seq_cau (K:=66) (by grind) λi=>(an_step h1 h2 i).2⟩
def e0(x:Rat):CC:=if h:-2<=x/\x<=2 then⟨RR.mk (cSq x h.1 h.2),RR.mk (sSq x h.1 h.2)⟩ else 0
theorem e0_def{x:Rat}(h1:-2<=x)(h2:x<=2):e0 x=⟨RR.mk (cSq x h1 h2),RR.mk (sSq x h1 h2)⟩:=dif_pos ⟨h1,h2⟩
theorem er_one(i:Nat):er (200+i)<=1:=by
 have:=er_ka i
 have:=ka_le i
 have:=eps_small
 grind
theorem near_er{f g:Nat->Rat}(h:∀i,-er (200+i)<=f i-g i/\f i-g i<=er (200+i)):Near0 f g:=λe he=>by
 obtain⟨N,hN⟩:=ka_ev he
 refine⟨N,λi hi=>?_⟩
 have h1:=h i
 have h2:=er_ka i
 have h3:=hN i hi
 have h4:=ka_pos i
 constructor<;>grind
theorem e0_add{x y:Rat}(x1:-2<=x)(x2:x<=2)(y1:-2<=y)(y2:y<=2)(z1:-2<=x+y)(z2:x+y<=2):e0 (x+y)=e0 x*e0 y:=by
 rw[e0_def x1 x2,e0_def y1 y2,e0_def z1 z2]
 have e:∀i,an (x+y) i=an x i+an y i:=λi=>by unfold an;grind
 have key:=λi=>cs_add (an_bd x1 x2 i).1 (an_bd x1 x2 i).2 (an_bd y1 y2 i).1 (an_bd y1 y2 i).2 (n:=200+i) (by omega)
 refine CC.ext ?_ ?_
 ·refine RR.snd (near_er λi=>?_)
  obtain⟨⟨h1,h2⟩,-⟩:=key i
  rw[<-e i] at h1 h2
  show-er (200+i)<=cN (200+i) (an (x+y) i)-(cN (200+i) (an x i)*cN (200+i) (an y i)+-(sN (200+i) (an x i)*sN (200+i) (an y i)))/\cN (200+i) (an (x+y) i)-(cN (200+i) (an x i)*cN (200+i) (an y i)+-(sN (200+i) (an x i)*sN (200+i) (an y i)))<=er (200+i)
  constructor<;>grind
 ·refine RR.snd (near_er λi=>?_)
  obtain⟨-,h1,h2⟩:=key i
  rw[<-e i] at h1 h2
  show-er (200+i)<=sN (200+i) (an (x+y) i)-(cN (200+i) (an x i)*sN (200+i) (an y i)+sN (200+i) (an x i)*cN (200+i) (an y i))/\sN (200+i) (an (x+y) i)-(cN (200+i) (an x i)*sN (200+i) (an y i)+sN (200+i) (an x i)*cN (200+i) (an y i))<=er (200+i)
  constructor<;>grind
theorem e0_neg{x:Rat}(x1:-2<=x)(x2:x<=2):e0 (-x)=(e0 x).conj:=by
 rw[e0_def x1 x2,e0_def (x:=-x) (by grind) (by grind)]
 have e:∀i,an (-x) i=-an x i:=λi=>by unfold an;grind
 refine CC.ext ?_ ?_
 ·refine RR.eqs λi=>?_
  show cN (200+i) (an (-x) i)=cN (200+i) (an x i)
  rw[e,cos_neg]
 ·refine RR.eqs λi=>?_
  show sN (200+i) (an (-x) i)=-sN (200+i) (an x i)
  rw[e,sin_neg]
theorem e0_zero:e0 0=1:=by
 rw[e0_def (x:=0) (by grind) (by grind)]
 have e:∀i,an 0 i=0:=λi=>by unfold an;grind
 have k:=λn=>(small_cs (c:=0) (C:=0) (by grind) (by grind) (by grind) (by grind) n)
 refine CC.ext ?_ ?_
 ·refine RR.eqs λi=>?_
  show cN (200+i) (an 0 i)=((1:Nat):Rat)
  rw[e]
  have:=(k (200+i)).1
  have:((1:Nat):Rat)=1:=rfl
  grind
 ·refine RR.eqs λi=>?_
  show sN (200+i) (an 0 i)=((0:Nat):Rat)
  rw[e]
  have:=(k (199+i)).2
  rw[show 199+i+1=200+i by omega] at this
  have:((0:Nat):Rat)=0:=rfl
  grind
theorem e0_nsq{x:Rat}(x1:-2<=x)(x2:x<=2):nsq (e0 x)=1:=by
 refine of_inj ?_
 rw[<-mul_conj,<-e0_neg x1 x2,<-e0_add x1 x2 (by grind) (by grind) (by grind) (by grind),show x+-x=0 by grind,e0_zero]
 rfl
theorem e0_quarter:e0 (1/4)=⟨0,1⟩:=by
 have hn:=e0_nsq (x:=1/4) (by grind) (by grind)
 rw[e0_def (x:=1/4) (by grind) (by grind)] at hn|-
 have e:∀i,an (1/4) i=yy i:=λi=>by unfold an;grind
 have hc:RR.mk (cSq (1/4) (by grind) (by grind))=0:=RR.snd λt ht=>by
  obtain⟨N,hN⟩:=ka_ev ht
  refine⟨N,λi hi=>?_⟩
  have h1:=(yi i).c
  have h2:=hN i hi
  have z:((0:Nat):Rat)=0:=rfl
  show cN (200+i) (an (1/4) i)-((0:Nat):Rat)<=t/\((0:Nat):Rat)-cN (200+i) (an (1/4) i)<=t
  rw[e,z]
  constructor<;>grind
 have hs:RR.of (1/2)<=RR.mk (sSq (1/4) (by grind) (by grind)):=λt ht=>Ev.all λi=>by
  have h1:=(yi i).s
  have h2:=ka_pos i
  have h3:=eps_small
  show(1/2:Rat)<=sN (200+i) (an (1/4) i)+t
  rw[e]
  grind
 have hp:(0:RR)<=RR.of (1/2):=RR.of_le.2 (by show((0:Nat):Rat)<=1/2;grind)
 unfold nsq at hn
 dsimp only at hn
 rw[hc] at hn
 refine CC.ext hc ?_
 show RR.mk (sSq (1/4) (by grind) (by grind))=1
 generalize RR.mk (sSq (1/4) (by grind) (by grind))=s at*
 have h0:0<=s:=by grind
 apply Classical.byContradiction
 intro hne
 rcases Std.IsLinearPreorder.le_total s 1 with h|h
 ·have:=RR.mul_lt (a:=0) (b:=1-s) (c:=1+s) (by grind) (by grind)
  grind
 ·have:=RR.mul_lt (a:=0) (b:=s-1) (c:=1+s) (by grind) (by grind)
  grind
theorem e0_half:e0 (1/2)=-1:=by
 have:=e0_add (x:=1/4) (y:=1/4) (by grind) (by grind) (by grind) (by grind) (by grind) (by grind)
 rw[show(1/4+1/4:Rat)=1/2 by grind,e0_quarter] at this
 rw[this]
 refine CC.ext ?_ ?_
 ·show(0:RR)*0-1*1=-1;grind
 ·show(0:RR)*1+1*0=-0;grind
theorem e0_one:e0 1=1:=by
 have:=e0_add (x:=1/2) (y:=1/2) (by grind) (by grind) (by grind) (by grind) (by grind) (by grind)
 rw[show(1/2+1/2:Rat)=1 by grind,e0_half] at this
 rw[this]
 grind
theorem e0_turn{x:Rat}(x1:-2<=x)(x2:x<=1):e0 (x+1)=e0 x:=by
 rw[e0_add x1 (by grind) (by grind) (by grind) (by grind) (by grind),e0_one]
 grind
theorem e0_sin_pos{x:Rat}(x1:0<x)(x2:x<=1/4):0<(e0 x).im:=by
 rw[e0_def (by grind) (by grind)]
 have h:RR.of (x/2)<=RR.mk (sSq x (by grind) (by grind)):=λt ht=>Ev.all λi=>by
  obtain⟨b1,b2⟩:=(yi i).bd
  have m1:=Rat.mul_nonneg (a:=x) (b:=yy i-15/10) (by grind) (by grind)
  have m2:=Rat.mul_nonneg (a:=1/4-x) (b:=yy i) (by grind) (by grind)
  have a0:0<=an x i:=by unfold an;grind
  have a1:an x i<=15709/10000:=by unfold an;grind
  have a2:6*x<=an x i:=by unfold an;grind
  have hl:2*(an x i)<=((2:Nat):Rat)+2:=by have:((2:Nat):Rat)=2:=rfl;rw[this];grind
  have b:=tail_cs a0 (x:=an x i) (by grind) (by grind) (n:=2) hl (198+i) (λm=>(sc m).2) (λm=>(sc_le m).2)
  have e1:sm (λm=>(sc m).2*te (an x i) m) (2+(198+i))=sN (200+i) (an x i):=by rw[show 2+(198+i)=200+i by omega];rfl
  have e2:sm (λm=>(sc m).2*te (an x i) m) 2=an x i:=by
   show sN 1 (an x i)+-0*te (an x i) 2=an x i
   rw[sN_one];grind
  rw[e1,e2,te_three] at b
  have m3:=Rat.mul_nonneg (a:=an x i) (b:=15709/10000-an x i) a0 (by grind)
  have m4:=Rat.mul_nonneg (a:=an x i*an x i) (b:=15709/10000-an x i) (Rat.mul_nonneg a0 a0) (by grind)
  show x/2<=sN (200+i) (an x i)+t
  grind
 have hp:(0:RR)<RR.of (x/2):=by
  have h1:¬RR.of (x/2)<=RR.of ((0:Nat):Rat):=λhh=>by
   have:=RR.of_le.1 hh
   have z:((0:Nat):Rat)=0:=rfl
   grind
  have h2:¬RR.of (x/2)<=0:=h1
  grind
 show 0<RR.mk (sSq x (by grind) (by grind))
 grind
theorem e0_ne_one{x:Rat}(x1:0<x)(x2:x<1):e0 x≠1:=by
 have base:∀x:Rat,0<x->x<=1/2->e0 x≠1:=λx x1 x2 h=>by
  by_cases hq:x<=1/4
  ·have:=e0_sin_pos x1 hq
   rw[h] at this
   have z:(1:CC).im=0:=rfl
   rw[z] at this
   grind
  ·have e:=e0_add (x:=1/4) (y:=x-1/4) (by grind) (by grind) (by grind) (by grind) (by grind) (by grind)
   rw[show 1/4+(x-1/4)=x by grind,h,e0_quarter] at e
   have hp:=e0_sin_pos (x:=x-1/4) (by grind) (by grind)
   have e1:=congrArg CC.re e
   have e2:((⟨0,1⟩:CC)*e0 (x-1/4)).re=0*(e0 (x-1/4)).re-1*(e0 (x-1/4)).im:=rfl
   have e3:(1:CC).re=1:=rfl
   rw[e2,e3] at e1
   grind
 by_cases hh:x<=1/2
 ·exact base x x1 hh
 ·intro h
  have e:=e0_add (x:=x) (y:=1-x) (by grind) (by grind) (by grind) (by grind) (by grind) (by grind)
  rw[show x+(1-x)=1 by grind,h,e0_one] at e
  exact base (1-x) (by grind) (by grind) (by grind)
def rtE(k:Int)(n:Nat):CC:=e0 (((k%(n:Int):Int):Rat)/(n:Rat))
theorem frac{n:Nat}(n1:1<=n){p:Int}(p0:0<=p)(p1:p<n):0<=(p:Rat)/(n:Rat)/\(p:Rat)/(n:Rat)<1/\(0<p->0<(p:Rat)/(n:Rat))/\(p:Rat)/(n:Rat)*(n:Rat)=(p:Rat):=by
 have hn:(0:Rat)<(n:Rat):=Rat.natCast_pos.2 n1
 have e:(p:Rat)/(n:Rat)*(n:Rat)=(p:Rat):=Rat.div_mul_cancel (by grind)
 have h0:(0:Rat)<=(p:Rat):=by have:=Rat.intCast_le_intCast.2 p0;exact this
 have h1:(p:Rat)<(n:Rat):=by have:=Rat.intCast_lt_intCast.2 p1;rw[Rat.intCast_natCast] at this;exact this
 refine⟨?_,?_,λhp=>?_,e⟩
 ·apply Classical.byContradiction
  intro hc
  have:=Rat.mul_pos (a:=-((p:Rat)/(n:Rat))) (b:=(n:Rat)) (by grind) hn
  grind
 ·apply Classical.byContradiction
  intro hc
  have:=Rat.mul_nonneg (a:=(p:Rat)/(n:Rat)-1) (b:=(n:Rat)) (by grind) (by grind)
  grind
 ·have h2:(0:Rat)<(p:Rat):=by have:=Rat.intCast_lt_intCast.2 hp;exact this
  apply Classical.byContradiction
  intro hc
  have:=Rat.mul_nonneg (a:=-((p:Rat)/(n:Rat))) (b:=(n:Rat)) (by grind) (by grind)
  grind
theorem div_eq{n:Rat}(hn:0<n){a b:Rat}(h:a*n=b):b/n=a:=by
 have e:b/n*n=b:=Rat.div_mul_cancel (by grind)
 have:(b/n-a)*n=0:=by grind
 rcases Rat.mul_eq_zero.1 this with h|h<;>grind
theorem rtE_add(n:Nat)(n1:1<=n)(a b:Int):rtE (a+b) n=rtE a n*rtE b n:=by
 have hn:(0:Rat)<(n:Rat):=Rat.natCast_pos.2 n1
 have p0:=Int.emod_nonneg a (show(n:Int)≠0 by omega)
 have p1:=Int.emod_lt_of_pos a (show(0:Int)<n by omega)
 have q0:=Int.emod_nonneg b (show(n:Int)≠0 by omega)
 have q1:=Int.emod_lt_of_pos b (show(0:Int)<n by omega)
 have hm:(a+b)%(n:Int)=(a%n+b%n)%n:=Int.add_emod a b n
 unfold rtE
 rw[hm]
 generalize a%(n:Int)=p at*
 generalize b%(n:Int)=q at*
 obtain⟨h1,h2,-,h3⟩:=frac n1 p0 p1
 obtain⟨k1,k2,-,k3⟩:=frac n1 q0 q1
 have es:(p:Rat)/(n:Rat)+(q:Rat)/(n:Rat)=((p+q:Int):Rat)/(n:Rat):=by
  symm
  exact div_eq hn (by rw[Rat.intCast_add];grind)
 rw[<-e0_add (by grind) (by grind) (by grind) (by grind) (by grind) (by grind)]
 by_cases h:p+q<n
 ·rw[Int.emod_eq_of_lt (by omega) h,es]
 ·have e:(p+q)%(n:Int)=p+q-n:=by
    rw[show p+q=(p+q-n)+n*1 by omega,Int.add_mul_emod_self_left,Int.emod_eq_of_lt (by omega) (by omega)]
    omega
  rw[e]
  obtain⟨g1,g2,-,g3⟩:=frac n1 (p:=p+q-n) (by omega) (by omega)
  have e2:(p:Rat)/(n:Rat)+(q:Rat)/(n:Rat)=((p+q-n:Int):Rat)/(n:Rat)+1:=by
   rw[es]
   refine div_eq hn ?_
   rw[Rat.intCast_add,Rat.intCast_sub,Rat.intCast_add,Rat.intCast_natCast] at*
   grind
  rw[e2,e0_turn (by grind) (by grind)]
theorem rtE_nil(n:Nat)(n1:1<=n)(m:Int):rtE (n*m) n=1:=by
 have:((0:Int):Rat)/(n:Rat)=0:=div_eq (Rat.natCast_pos.2 n1) (by rw[Rat.zero_mul];rfl)
 unfold rtE
 rw[Int.mul_emod_right,this,e0_zero]
theorem rtE_bd(n:Nat)(n1:1<=n)(k:Int):0<=((k%(n:Int):Int):Rat)/(n:Rat)/\((k%(n:Int):Int):Rat)/(n:Rat)<1:=by
 obtain⟨h1,h2,-,-⟩:=frac n1 (Int.emod_nonneg k (show(n:Int)≠0 by omega)) (Int.emod_lt_of_pos k (show(0:Int)<n by omega))
 exact⟨h1,h2⟩
theorem rtE_nsq(n:Nat)(n1:1<=n)(k:Int):nsq (rtE k n)=1:=by
 obtain⟨h1,h2⟩:=rtE_bd n n1 k
 exact e0_nsq (by grind) (by grind)
theorem rtE_conj(n:Nat)(n1:1<=n)(k:Int):(rtE k n).conj=rtE (-k) n:=by
 have h1:rtE (-k) n*rtE k n=1:=by
  rw[<-rtE_add n n1]
  have:=rtE_nil n n1 0
  rw[Int.mul_zero] at this
  rw[show-k+k=0 by omega]
  exact this
 have h2:rtE k n*(rtE k n).conj=1:=by rw[mul_conj,rtE_nsq n n1];rfl
 generalize rtE k n=z at*
 generalize rtE (-k) n=v at*
 have:z.conj=v*z*z.conj:=by rw[h1];grind
 rw[this]
 have e:v*z*z.conj=v*(z*z.conj):=by grind
 rw[e,h2]
 grind
theorem rtE_ne(n:Nat)(n1:1<=n)(j:Int)(h:¬(n:Int)∣j):rtE j n≠1:=by
 have p0:=Int.emod_nonneg j (show(n:Int)≠0 by omega)
 have p1:=Int.emod_lt_of_pos j (show(0:Int)<n by omega)
 have hne:j%(n:Int)≠0:=λe=>h (Int.dvd_of_emod_eq_zero e)
 obtain⟨h1,h2,h3,-⟩:=frac n1 p0 p1
 exact e0_ne_one (h3 (by omega)) h2
theorem CC.cancel{a b:CC}(ha:a≠0)(h:a*b=0):b=0:=by
 have h1:nsq a*nsq b=0:=by rw[<-nsq_mul,h,nsq_zero]
 have hp:0<nsq a:=by
  have:=nsq_nonneg a
  have:nsq a≠0:=λe=>ha (nsq_eq_zero e)
  grind
 have hq:=nsq_nonneg b
 refine nsq_eq_zero ?_
 apply Classical.byContradiction
 intro hn
 have:=RR.mul_lt (a:=0) (b:=nsq b) (c:=nsq a) (by grind) hp
 grind
theorem geo_sum(n:Nat)(n1:1<=n)(j:Int):∀m:Nat,(rtE j n-1)*sumF m (λk=>rtE (j*(k:Nat)) n)=rtE (j*(m:Nat)) n-1
 |0=>by
   have:=rtE_nil n n1 0
   rw[Int.mul_zero] at this
   rw[sumF_nil,show j*((0:Nat):Int)=0 by simp,this]
   grind
 |m+1=>by
   have h:=geo_sum n n1 j m
   have e:j*((m+1:Nat):Int)=j*(m:Nat)+j:=by rw[Int.natCast_add];grind
   rw[sumF_succ,e,rtE_add n n1]
   have:(rtE j n-1)*(sumF m (λk=>rtE (j*(k:Nat)) n)+rtE (j*(m:Nat)) n)=(rtE j n-1)*sumF m (λk=>rtE (j*(k:Nat)) n)+(rtE j n-1)*rtE (j*(m:Nat)) n:=by grind
   rw[this,h]
   grind
theorem rts_E(N:Nat):Rts N rtE where
 zero n n1 _:=by have:=rtE_nil n n1 0;rw[Int.mul_zero] at this;exact this
 add n a b n1 _:=rtE_add n n1 a b
 full n m n1 _:=rtE_nil n n1 m
 scale m n k m1 n1 _:=by
  unfold rtE
  congr 1
  have hn:(0:Rat)<(n:Rat):=Rat.natCast_pos.2 n1
  have hm:(0:Rat)<(m:Rat):=Rat.natCast_pos.2 m1
  obtain⟨-,-,-,h3⟩:=frac n1 (Int.emod_nonneg k (show(n:Int)≠0 by omega)) (Int.emod_lt_of_pos k (show(0:Int)<n by omega))
  rw[Int.natCast_mul,Int.mul_emod_mul_of_pos _ _ (by omega)]
  refine div_eq (by rw[Rat.natCast_mul];exact Rat.mul_pos hm hn) ?_
  rw[Rat.natCast_mul,Rat.intCast_mul,Rat.intCast_natCast]
  grind
 orth n j n1 _ h:=by
  have h1:=geo_sum n n1 j n
  have h2:rtE (j*(n:Nat)) n=1:=by rw[Int.mul_comm];exact rtE_nil n n1 j
  rw[h2] at h1
  refine CC.cancel (a:=rtE j n-1) (λe=>rtE_ne n n1 j h ?_) ?_
  ·have:rtE j n=(rtE j n-1)+1:=by grind
   rw[this,e];grind
  ·rw[h1];grind
end CG
end Go.Proofs.YtfedabinindpbaaGreat
