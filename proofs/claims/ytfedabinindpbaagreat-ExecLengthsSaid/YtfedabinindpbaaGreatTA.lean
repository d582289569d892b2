/- Floats, sums of two floats, parts of a turn: what the contract of Turn wants (TA). -/
import Ieee.Arith
namespace Fl
def ce(n k:Nat):Nat:=
 n/2^k+if 2^k<2*(n%2^k)\/(2^k=2*(n%2^k)/\n/2^k%2=1) then 1 else 0
theorem cut_eq(neg:Bool)(n k:Nat):Ieee.Toward.even.cut neg n k=ce n k:=by
 unfold Ieee.Toward.cut ce
 by_cases h:k<=n.log2+2
 ·rw[Nat.min_eq_left h]
  simp only[Nat.one_shiftLeft]
  by_cases c:2^k<2*(n%2^k)\/(2^k=2*(n%2^k)/\n/2^k%2=1)
  ·rw[if_pos c]
   rcases c with c|⟨c,d⟩
   ·simp[c]
   ·have:¬2^k<2*(n%2^k):=by omega
    simp[<-c,d]
  ·rw[if_neg c]
   have c1:¬2^k<2*(n%2^k):=λh=>c (.inl h)
   have c2:¬(2^k=2*(n%2^k)/\n/2^k%2=1):=λh=>c (.inr h)
   simp only[decide_eq_false c1,Bool.false_or]
   by_cases e:2^k=2*(n%2^k)
   ·have:¬n/2^k%2=1:=λh=>c2 ⟨e,h⟩
    simp[this]
   ·have e':(2^k==2*(n%2^k))=false:=by simpa using e
    rw[e'];rfl
 ·have hk:n.log2+2<=k:=by omega
  rw[Nat.min_eq_right hk]
  simp only[Nat.one_shiftLeft]
  have h1:n<2^(n.log2+1):=Nat.lt_log2_self
  have h2:2^(n.log2+2)=2*2^(n.log2+1):=by rw[Nat.pow_succ];omega
  have h3:2^(n.log2+2)<=2^k:=Nat.pow_le_pow_right (by omega) hk
  have a1:n/2^(n.log2+2)=0:=Nat.div_eq_of_lt (by omega)
  have a2:n%2^(n.log2+2)=n:=Nat.mod_eq_of_lt (by omega)
  have b1:n/2^k=0:=Nat.div_eq_of_lt (by omega)
  have b2:n%2^k=n:=Nat.mod_eq_of_lt (by omega)
  rw[a1,a2,b1,b2]
  have c1:¬2^(n.log2+2)<2*n:=by omega
  have c2:¬2^k<2*n:=by omega
  simp[c1,c2]
theorem ce_zero(n:Nat):ce n 0=n:=by
 unfold ce;simp[Nat.mod_one]
theorem ce_near(n k:Nat):2*(ce n k*2^k)<=2*n+2^k/\2*n<=2*(ce n k*2^k)+2^k/\
  ((2*(ce n k*2^k)=2*n+2^k\/2*n=2*(ce n k*2^k)+2^k)->ce n k%2=0):=by
 unfold ce
 have hP:0<2^k:=Nat.two_pow_pos k
 have hm:=Nat.div_add_mod n (2^k)
 have hr:=Nat.mod_lt n hP
 generalize 2^k=P at*
 generalize n/P=d at*
 generalize n%P=r at*
 have e1:(d+1)*P=P*d+P:=by rw[Nat.add_mul,Nat.mul_comm];omega
 have e0:(d+0)*P=P*d:=by rw[Nat.add_zero,Nat.mul_comm]
 split
 ·rw[e1]
  refine⟨by omega,by omega,?_⟩
  intro h
  rename_i c
  omega
 ·rw[e0]
  refine⟨by omega,by omega,?_⟩
  intro h
  rename_i c
  omega
def lev(N:Nat):Nat:=N.log2-52
theorem lev_lo(N:Nat):lev N=0\/2^(52+lev N)<=N:=by
 unfold lev
 by_cases h:N.log2<=52
 ·left;omega
 ·right
  have h0:N≠0:=by intro e;subst e;simp at h
  have:=Nat.log2_self_le h0
  rwa [show 52+(N.log2-52)=N.log2 from by omega]
theorem lev_hi(N:Nat):N<2^(53+lev N):=by
 unfold lev
 have h:N<2^(N.log2+1):=Nat.lt_log2_self
 refine Nat.lt_of_lt_of_le h (Nat.pow_le_pow_right (by omega) (by omega))
def rn(N:Nat):Nat:=ce N (lev N)*2^lev N
theorem rn_spec(N:Nat):∃k q:Nat,(k=0\/2^52*2^k<=N)/\N<2^53*2^k/\rn N=q*2^k/\q<=2^53/\
  2*rn N<=2*N+2^k/\2*N<=2*rn N+2^k/\(k=0->rn N=N)/\
  ((2*rn N=2*N+2^k\/2*N=2*rn N+2^k)->q%2=0):=by
 refine⟨lev N,ce N (lev N),?_,?_,rfl,?_,(ce_near N _).1,(ce_near N _).2.1,?_,(ce_near N _).2.2⟩
 ·rw[<-Nat.pow_add];exact lev_lo N
 ·rw[<-Nat.pow_add];exact lev_hi N
 ·have h:=lev_hi N
  have hn:=(ce_near N (lev N)).1
  rw[Nat.pow_add] at h
  have hP:0<2^lev N:=Nat.two_pow_pos _
  generalize ce N (lev N)=q at*
  generalize 2^lev N=P at*
  apply Decidable.byContradiction
  intro hc
  have:2^53+1<=q:=by omega
  have:=Nat.mul_le_mul_right P this
  have e:(2^53+1)*P=2^53*P+P:=by rw[Nat.add_mul,Nat.one_mul]
  omega
 ·intro h;unfold rn;rw[h];simp[ce_zero]
def rnd(n:Int):Int:=if n<0 then-(rn n.natAbs:Int) else(rn n.natAbs:Int)
theorem rn_zero:rn 0=0:=by decide
theorem rnd_zero:rnd 0=0:=by simp[rnd,rn_zero]
theorem rnd_neg(n:Int):rnd (-n)=-rnd n:=by
 unfold rnd
 rw[Int.natAbs_neg]
 by_cases h0:n=0
 ·subst h0;simp[rn_zero]
 ·split<;>split<;>omega
structure Lv(n r:Int)(k:Nat)(q:Int):Prop where
 lo:k=0\/2^52*2^k<=n\/n<=-(2^52*2^k)
 hi:n<2^53*2^k
 hi':-(2^53*2^k)<n
 eq:r=q*2^k
 q1:q<=2^53
 q2:-2^53<=q
 up:2*r<=2*n+2^k
 dn:2*n<=2*r+2^k
 z:k=0->r=n
 ev:2*r=2*n+2^k\/2*n=2*r+2^k->q%2=0
theorem rnd_lv(n:Int):∃(k:Nat) (q:Int),Lv n (rnd n) k q:=by
 obtain⟨k,q,h1,h2,h3,h4,h5,h6,h7,h8⟩:=rn_spec n.natAbs
 have e3:((rn n.natAbs:Nat):Int)=(q:Int)*2^k:=by rw[h3];simp
 have ek:((2^k:Nat):Int)=2^k:=by simp
 have eb:((2^53*2^k:Nat):Int)=2^53*2^k:=by simp
 have ea:((2^52*2^k:Nat):Int)=2^52*2^k:=by simp
 by_cases hn:n<0
 ·refine⟨k,-q,?_⟩
  have er:rnd n=-(rn n.natAbs:Int):=by simp[rnd,hn]
  have en:n=-(n.natAbs:Int):=by omega
  rw[er]
  constructor
  ·rcases h1 with h|h
   ·exact .inl h
   ·right;right;rw[<-ea];omega
  ·rw[<-eb];omega
  ·rw[<-eb];omega
  ·rw[e3,Int.neg_mul]
  ·omega
  ·omega
  ·rw[<-ek];omega
  ·rw[<-ek];omega
  ·intro h;have:=h7 h;omega
  ·intro h;rw[<-ek] at h
   have:=h8 (by omega)
   omega
 ·refine⟨k,q,?_⟩
  have er:rnd n=(rn n.natAbs:Int):=by simp[rnd,hn]
  have en:n=(n.natAbs:Int):=by omega
  rw[er]
  constructor
  ·rcases h1 with h|h
   ·exact .inl h
   ·right;left;rw[<-ea];omega
  ·rw[<-eb];omega
  ·rw[<-eb];omega
  ·rw[e3]
  ·omega
  ·omega
  ·rw[<-ek];omega
  ·rw[<-ek];omega
  ·intro h;have:=h7 h;omega
  ·intro h;rw[<-ek] at h
   have:=h8 (by omega)
   omega
def Rep(n:Int):Prop:=∃(m:Int) (k:Nat),n=m*2^k/\m<=2^53/\-2^53<=m
theorem rep_rnd(n:Int):Rep (rnd n):=by
 obtain⟨k,q,h⟩:=rnd_lv n
 exact⟨q,k,h.eq,h.q1,h.q2⟩
theorem Rep.neg{n:Int}(h:Rep n):Rep (-n):=by
 obtain⟨m,k,e,a,b⟩:=h
 exact⟨-m,k,by rw[e,Int.neg_mul],by omega,by omega⟩
theorem rep_zero:Rep 0:=⟨0,0,by simp,by omega,by omega⟩
theorem pow_pos_int(k:Nat):(0:Int)<2^k:=by
 have:=Nat.two_pow_pos k
 have e:((2^k:Nat):Int)=2^k:=by simp
 omega
theorem mul_small{a P:Int}(h1:a*P<P)(h2:-P<a*P):a=0:=by
 by_cases h:a=0
 ·exact h
 ·exfalso
  have hP:0<P:=by omega
  by_cases g:0<a
  ·have:1*P<=a*P:=Int.mul_le_mul_of_nonneg_right (by omega) (by omega)
   omega
  ·have:a*P<=(-1)*P:=Int.mul_le_mul_of_nonneg_right (by omega) (by omega)
   omega
theorem Rep.big{x:Int}(h:Rep x){k:Nat}(hk:2^52*2^k<=x\/x<=-(2^52*2^k)):∃a:Int,x=a*2^k:=by
 obtain⟨m,j,e,a,b⟩:=h
 by_cases hj:k<=j
 ·refine⟨m*2^(j-k),?_⟩
  rw[e,Int.mul_assoc,<-Int.pow_add,Nat.sub_add_cancel hj]
 ·have hk1:(2:Int)^k=2^(k-j)*2^j:=by rw[<-Int.pow_add,Nat.sub_add_cancel (by omega)]
  obtain⟨d,hd⟩:∃d,k-j=d+1:=⟨k-j-1,by omega⟩
  have hk2:(2:Int)^(k-j)=2*2^d:=by rw[hd,Int.pow_succ,Int.mul_comm]
  have hpd:=pow_pos_int d
  have hpj:=pow_pos_int j
  have hm:2^53*2^d<=m\/m<=-(2^53*2^d):=by
   rw[hk1,hk2] at hk
   have e1:(2:Int)^52*(2*2^d*2^j)=(2^53*2^d)*2^j:=by
    rw[<-Int.mul_assoc,<-Int.mul_assoc];rfl
   rw[e1,e,<-Int.neg_mul] at hk
   rcases hk with hk|hk
   ·exact .inl (Int.le_of_mul_le_mul_right hk hpj)
   ·exact .inr (Int.le_of_mul_le_mul_right hk hpj)
  have hd1:(2:Int)^d=1/\(m=2^53\/m=-2^53):=by
   generalize (2:Int)^d=D at*
   omega
  refine⟨if m=2^53 then 2^52 else-2^52,?_⟩
  rw[e,hk1,hk2,hd1.1]
  rcases hd1.2 with hm|hm<;>rw[hm]
  ·rw[if_pos rfl,<-Int.mul_assoc];rfl
  ·rw[if_neg (by omega),<-Int.mul_assoc];rfl
theorem Rep.rnd_eq{n:Int}(h:Rep n):rnd n=n:=by
 obtain⟨k,q,hl⟩:=rnd_lv n
 by_cases hk:k=0
 ·exact hl.z hk
 ·have hb:2^52*2^k<=n\/n<=-(2^52*2^k):=by rcases hl.lo with h|h|h;exact absurd h hk;exact .inl h;exact .inr h
  obtain⟨a,ha⟩:=h.big hb
  have e:=hl.eq
  have hu:=hl.up
  have hd:=hl.dn
  have hp:=pow_pos_int k
  have:q-a=0:=by
   apply mul_small (P:=2^k)
   ·rw[Int.sub_mul,<-e,<-ha];omega
   ·rw[Int.sub_mul,<-e,<-ha];omega
  rw[e,ha,show q=a from by omega]
theorem rnd_near(n:Int){x:Int}(hx:Rep x):(rnd n-n<=x-n\/rnd n-n<=n-x)/\(n-rnd n<=x-n\/n-rnd n<=n-x):=by
 obtain⟨k,q,hl⟩:=rnd_lv n
 by_cases hk:k=0
 ·have:=hl.z hk;omega
 ·have hb:2^52*2^k<=n\/n<=-(2^52*2^k):=by rcases hl.lo with h|h|h;exact absurd h hk;exact .inl h;exact .inr h
  have e:=hl.eq
  have hu:=hl.up
  have hd:=hl.dn
  have hp:=pow_pos_int k
  by_cases hx2:∃a:Int,x=a*2^k
  ·obtain⟨a,ha⟩:=hx2
   by_cases ht:a=q
   ·subst ht;rw[e,ha];omega
   ·
    have h1:2^k<=x-rnd n\/2^k<=rnd n-x:=by
     rw[e,ha,<-Int.sub_mul,<-Int.sub_mul]
     by_cases g:a<q
     ·right
      have:=Int.mul_le_mul_of_nonneg_right (show 1<=q-a from by omega) (Int.le_of_lt hp)
      omega
     ·left
      have:=Int.mul_le_mul_of_nonneg_right (show 1<=a-q from by omega) (Int.le_of_lt hp)
      omega
    omega
  ·
   have hs:¬(2^52*2^k<=x\/x<=-(2^52*2^k)):=λh=>hx2 (hx.big h)
   have hq:(2^52<=q)\/(q<=-2^52):=by
    rcases hb with h|h
    ·left
     apply Decidable.byContradiction
     intro hc
     have:=Int.mul_le_mul_of_nonneg_right (show q<=2^52-1 from by omega) (Int.le_of_lt hp)
     rw[Int.sub_mul,<-e] at this
     omega
    ·right
     apply Decidable.byContradiction
     intro hc
     have:=Int.mul_le_mul_of_nonneg_right (show-2^52+1<=q from by omega) (Int.le_of_lt hp)
     rw[Int.add_mul,<-e,Int.neg_mul] at this
     omega
   have hq':2^52*2^k<=rnd n\/rnd n<=-(2^52*2^k):=by
    rw[e,<-Int.neg_mul]
    rcases hq with h|h
    ·exact .inl (Int.mul_le_mul_of_nonneg_right h (Int.le_of_lt hp))
    ·exact .inr (Int.mul_le_mul_of_nonneg_right h (Int.le_of_lt hp))
   have hdist:∀m:Int,n-2^52*2^k=m->0<=m->2^52*2^k<=rnd n->rnd n-n<=m:=by
    intro m hm h0 hr
    by_cases hq2:q=2^52
    ·rw[e,hq2];omega
    ·have:=Int.mul_le_mul_of_nonneg_right (show 2^52+1<=q from by
        rcases hq with h|h
        ·omega
        ·exfalso
         have:=Int.mul_le_mul_of_nonneg_right (show q<=0 from by omega) (Int.le_of_lt hp)
         rw[<-e] at this
         omega) (Int.le_of_lt hp)
     rw[Int.add_mul,<-e] at this
     omega
   have hdist':∀m:Int,-n-2^52*2^k=m->0<=m->rnd n<=-(2^52*2^k)->n-rnd n<=m:=by
    intro m hm h0 hr
    by_cases hq2:q=-2^52
    ·rw[e,hq2,Int.neg_mul];omega
    ·have:=Int.mul_le_mul_of_nonneg_right (show q<=-2^52-1 from by
        rcases hq with h|h
        ·exfalso
         have:=Int.mul_le_mul_of_nonneg_right (show 0<=q from by omega) (Int.le_of_lt hp)
         rw[<-e] at this
         omega
        ·omega) (Int.le_of_lt hp)
     rw[Int.sub_mul,Int.neg_mul,<-e] at this
     omega
   rcases hb with h|h
   ·have:=hdist _ rfl (by omega) (by omega)
    omega
   ·have:=hdist' _ rfl (by omega) (by omega)
    omega
theorem rnd_rel(n:Int):2^53*(rnd n-n)<=n.natAbs/\2^53*(n-rnd n)<=n.natAbs:=by
 obtain⟨k,q,hl⟩:=rnd_lv n
 by_cases hk:k=0
 ·have:=hl.z hk;omega
 ·have hb:2^52*2^k<=n\/n<=-(2^52*2^k):=by rcases hl.lo with h|h|h;exact absurd h hk;exact .inl h;exact .inr h
  have hu:=hl.up
  have hd:=hl.dn
  generalize (2:Int)^k=P at*
  omega
theorem rep_err{x y:Int}(hx:Rep x)(hy:Rep y):Rep (x+y-rnd (x+y)):=by
 have nx:=rnd_near (x+y) hx
 have ny:=rnd_near (x+y) hy
 obtain⟨k,q,hl⟩:=rnd_lv (x+y)
 by_cases hk:k=0
 ·rw[hl.z hk,Int.sub_self];exact rep_zero
 have e:=hl.eq
 obtain⟨a,i,ex,a1,a2⟩:=hx
 obtain⟨b,j,ey,b1,b2⟩:=hy
 have key:∀(x y a b:Int) (i j:Nat),x=a*2^i->y=b*2^j->i<=j->a<=2^53->-2^53<=a->x+y-rnd (x+y)<=x.natAbs->rnd (x+y)-(x+y)<=x.natAbs->
   (∃c:Int,rnd (x+y)=c*2^i)->Rep (x+y-rnd (x+y)):=by
  intro x y a b i j ex ey hij a1 a2 h1 h2 ⟨c,hc⟩
  refine⟨a+b*2^(j-i)-c,i,?_,?_,?_⟩
  ·rw[Int.sub_mul,Int.add_mul,<-ex,<-hc,Int.mul_assoc,<-Int.pow_add,Nat.sub_add_cancel hij,<-ey]
  ·have hp:=pow_pos_int i
   have:(a+b*2^(j-i)-c)*2^i<=2^53*2^i:=by
    rw[Int.sub_mul,Int.add_mul,<-ex,<-hc,Int.mul_assoc,<-Int.pow_add,Nat.sub_add_cancel hij,<-ey]
    have:(x.natAbs:Int)<=2^53*2^i:=by
     have h1:=Int.mul_le_mul_of_nonneg_right a1 (Int.le_of_lt hp)
     have h2:=Int.mul_le_mul_of_nonneg_right a2 (Int.le_of_lt hp)
     rw[Int.neg_mul] at h2
     rw[<-ex] at h1 h2
     omega
    omega
   exact Int.le_of_mul_le_mul_right this hp
  ·have hp:=pow_pos_int i
   have:-2^53*2^i<=(a+b*2^(j-i)-c)*2^i:=by
    rw[Int.sub_mul,Int.add_mul,<-ex,<-hc,Int.mul_assoc,<-Int.pow_add,Nat.sub_add_cancel hij,<-ey]
    have:(x.natAbs:Int)<=2^53*2^i:=by
     have h1:=Int.mul_le_mul_of_nonneg_right a1 (Int.le_of_lt hp)
     have h2:=Int.mul_le_mul_of_nonneg_right a2 (Int.le_of_lt hp)
     rw[Int.neg_mul] at h2
     rw[<-ex] at h1 h2
     omega
    rw[Int.neg_mul]
    omega
   exact Int.le_of_mul_le_mul_right this hp
 have mult:∀i:Nat,i<=k->∃c:Int,rnd (x+y)=c*2^i:=λi hi=>by
  refine⟨q*2^(k-i),?_⟩
  rw[e,Int.mul_assoc,<-Int.pow_add,Nat.sub_add_cancel hi]
 by_cases hij:i<=j
 ·by_cases hik:i<=k
  ·exact key x y a b i j ex ey hij a1 a2 (by omega) (by omega) (mult i hik)
  ·
   have hm:∃c:Int,x+y=c*2^k:=⟨a*2^(i-k)+b*2^(j-k),by
    rw[Int.add_mul,Int.mul_assoc,Int.mul_assoc,<-Int.pow_add,<-Int.pow_add,Nat.sub_add_cancel (by omega),Nat.sub_add_cancel (by omega),<-ex,<-ey]⟩
   obtain⟨c,hc⟩:=hm
   have hu:=hl.up
   have hd:=hl.dn
   have hp:=pow_pos_int k
   have:q-c=0:=by
    apply mul_small (P:=2^k)
    ·rw[Int.sub_mul,<-e,<-hc];omega
    ·rw[Int.sub_mul,<-e,<-hc];omega
   rw[e,hc,show q=c from by omega,Int.sub_self]
   exact rep_zero
 ·by_cases hjk:j<=k
  ·have:=key y x b a j i ey ex (by omega) b1 b2 (by rw[Int.add_comm y x];omega) (by rw[Int.add_comm y x];omega) (by rw[Int.add_comm y x];exact mult j hjk)
   rwa [Int.add_comm y x] at this
  ·have hm:∃c:Int,x+y=c*2^k:=⟨a*2^(i-k)+b*2^(j-k),by
     rw[Int.add_mul,Int.mul_assoc,Int.mul_assoc,<-Int.pow_add,<-Int.pow_add,Nat.sub_add_cancel (by omega),Nat.sub_add_cancel (by omega),<-ex,<-ey]⟩
   obtain⟨c,hc⟩:=hm
   have hu:=hl.up
   have hd:=hl.dn
   have hp:=pow_pos_int k
   have:q-c=0:=by
    apply mul_small (P:=2^k)
    ·rw[Int.sub_mul,<-e,<-hc];omega
    ·rw[Int.sub_mul,<-e,<-hc];omega
   rw[e,hc,show q=c from by omega,Int.sub_self]
   exact rep_zero
theorem rep_of_mul{x c:Int}{k:Nat}(e:x=c*2^k)(h1:x<2^53*2^k+2^k)(h2:-(2^53*2^k+2^k)<x):Rep x:=by
 have hp:=pow_pos_int k
 refine⟨c,k,e,?_,?_⟩
 ·apply Decidable.byContradiction
  intro hc
  have:=Int.mul_le_mul_of_nonneg_right (show 2^53+1<=c from by omega) (Int.le_of_lt hp)
  rw[Int.add_mul,<-e] at this
  omega
 ·apply Decidable.byContradiction
  intro hc
  have:=Int.mul_le_mul_of_nonneg_right (show c<=-2^53-1 from by omega) (Int.le_of_lt hp)
  rw[Int.sub_mul,Int.neg_mul,<-e] at this
  omega
theorem exact_of_mul{n r:Int}{k:Nat}{q:Int}(hl:Lv n r k q){c:Int}(hc:n=c*2^k):r=n:=by
 have hu:=hl.up
 have hd:=hl.dn
 have e:=hl.eq
 have hp:=pow_pos_int k
 have:q-c=0:=by
  apply mul_small (P:=2^k)
  ·rw[Int.sub_mul,<-e,<-hc];omega
  ·rw[Int.sub_mul,<-e,<-hc];omega
 rw[e,hc,show q=c from by omega]
theorem dvd_up{x:Int}{i k:Nat}(h:i<=k){c:Int}(e:x=c*2^k):∃d:Int,x=d*2^i:=
 ⟨c*2^(k-i),by rw[e,Int.mul_assoc,<-Int.pow_add,Nat.sub_add_cancel h]⟩
theorem sum_parts{a b:Int}(ha:Rep a)(hb:Rep b)(hab:b.natAbs<=a.natAbs)(hn:rnd (a+b)≠a+b):
  ∃k:Nat,∃α σ:Int,a=α*2^k/\rnd (a+b)=σ*2^k/\(b.natAbs:Int)<2^53*2^k/\
   2^52*2^k<=(a.natAbs:Int)/\(b.natAbs<a.natAbs->2^52*2^k<(a.natAbs:Int))/\rnd (a+b)-(a+b)<=2^k/\(a+b)-rnd (a+b)<=2^k:=by
 obtain⟨k,q,hl⟩:=rnd_lv (a+b)
 have hk:k≠0:=λh=>hn (hl.z h)
 obtain⟨j,rfl⟩:∃j,k=j+1:=⟨k-1,by omega⟩
 have hp:=pow_pos_int j
 have e2:(2:Int)^(j+1)=2*2^j:=by rw[Int.pow_succ,Int.mul_comm]
 have hlo:=hl.lo
 have hu:=hl.up
 have hd:=hl.dn
 have he:=hl.eq
 rw[e2] at hlo hu hd
 have hA:2^52*2^j<=(a.natAbs:Int):=by
  generalize (2:Int)^j=P at*
  omega
 obtain⟨α,hα⟩:=ha.big (k:=j) (by generalize (2:Int)^j=P at*;omega)
 refine⟨j,α,q*2,hα,?_,?_,hA,?_,?_,?_⟩
 ·rw[he,e2,Int.mul_assoc]
 ·apply Decidable.byContradiction
  intro hc
  have hb':2^52*2^(j+1)<=b\/b<=-(2^52*2^(j+1)):=by rw[e2];generalize (2:Int)^j=P at*;omega
  have ha':2^52*2^(j+1)<=a\/a<=-(2^52*2^(j+1)):=by rw[e2];generalize (2:Int)^j=P at*;omega
  obtain⟨x,hx⟩:=ha.big ha'
  obtain⟨y,hy⟩:=hb.big hb'
  exact hn (exact_of_mul hl (c:=x+y) (by rw[Int.add_mul,<-hx,<-hy]))
 ·intro h
  generalize (2:Int)^j=P at*
  omega
 ·generalize (2:Int)^j=P at*
  omega
 ·generalize (2:Int)^j=P at*
  omega
theorem fast{a b:Int}(ha:Rep a)(hb:Rep b)(hab:b.natAbs<=a.natAbs):Rep (rnd (a+b)-a):=by
 by_cases hn:rnd (a+b)=a+b
 ·rw[hn,show a+b-a=b from by omega];exact hb
 ·obtain⟨k,α,σ,h1,h2,h3,h4,h5,h6,h7⟩:=sum_parts ha hb hab hn
  refine rep_of_mul (k:=k) (c:=σ-α) (by rw[Int.sub_mul,<-h1,<-h2]) ?_ ?_
  ·generalize (2:Int)^k=P at*
   omega
  ·generalize (2:Int)^k=P at*
   omega
structure TwoSum(a b:Int):Prop where
 u:rnd (rnd (a+b)-rnd (rnd (a+b)-a))=rnd (a+b)-rnd (rnd (a+b)-a)
 f:rnd (a-(rnd (a+b)-rnd (rnd (a+b)-a)))=a-(rnd (a+b)-rnd (rnd (a+b)-a))
 d:rnd (b-rnd (rnd (a+b)-a))=b-rnd (rnd (a+b)-a)
theorem two_sum_parts{a b:Int}(ha:Rep a)(hb:Rep b):TwoSum a b:=by
 have herr:=rep_err ha hb
 by_cases hx:Rep (rnd (a+b)-a)
 ·have ht:rnd (rnd (a+b)-a)=rnd (a+b)-a:=hx.rnd_eq
  constructor
  ·rw[ht,show rnd (a+b)-(rnd (a+b)-a)=a from by omega];exact ha.rnd_eq
  ·rw[ht,show a-(rnd (a+b)-(rnd (a+b)-a))=0 from by omega];exact rnd_zero
  ·rw[ht,show b-(rnd (a+b)-a)=a+b-rnd (a+b) from by omega];exact herr.rnd_eq
 ·have hlt:a.natAbs<b.natAbs:=by
    apply Decidable.byContradiction
    intro hc
    exact hx (fast ha hb (by omega))
  have hn:rnd (a+b)≠a+b:=by
   intro h;apply hx;rw[h,show a+b-a=b from by omega];exact hb
  have hn':rnd (b+a)≠b+a:=by rw[Int.add_comm b a];exact hn
  obtain⟨k,β,σ,h1,h2,h3,h4,h5,h6,h7⟩:=sum_parts hb ha (by omega) hn'
  rw[Int.add_comm b a] at h2 h6 h7
  have h5':=h5 hlt
  have hp:=pow_pos_int k
  have hne:=rnd_near (rnd (a+b)-a) hb
  obtain⟨kt,qt,hlt'⟩:=rnd_lv (rnd (a+b)-a)
  have hbig:2^52*2^k<=rnd (a+b)-a\/rnd (a+b)-a<=-(2^52*2^k):=by
   have:2^52*2^k+2^k<=b\/b<=-(2^52*2^k+2^k):=by
    by_cases g:0<=b
    ·left
     have:2^52<β:=by
      apply Decidable.byContradiction
      intro hc
      have:=Int.mul_le_mul_of_nonneg_right (show β<=2^52 from by omega) (Int.le_of_lt hp)
      rw[<-h1] at this
      omega
     have:=Int.mul_le_mul_of_nonneg_right (show 2^52+1<=β from by omega) (Int.le_of_lt hp)
     rw[Int.add_mul,<-h1] at this
     omega
    ·right
     have:β< -2^52:=by
      apply Decidable.byContradiction
      intro hc
      have:=Int.mul_le_mul_of_nonneg_right (show-2^52<=β from by omega) (Int.le_of_lt hp)
      rw[<-h1,Int.neg_mul] at this
      omega
     have:=Int.mul_le_mul_of_nonneg_right (show β<=-2^52-1 from by omega) (Int.le_of_lt hp)
     rw[Int.sub_mul,Int.neg_mul,<-h1] at this
     omega
   generalize (2:Int)^k=P at*
   omega
  have hkt:k<=kt:=by
   apply Decidable.byContradiction
   intro hc
   have h:=hlt'.hi
   have h':=hlt'.hi'
   have:(2:Int)^k=2^(k-kt-1)*(2*2^kt):=by
    rw[show 2*(2:Int)^kt=2^(kt+1) from by rw[Int.pow_succ,Int.mul_comm],<-Int.pow_add,show k-kt-1+(kt+1)=k from by omega]
   have g1:2*(2:Int)^kt<=2^k:=by
    rw[this]
    have hp1:=pow_pos_int (k-kt-1)
    have hp2:=pow_pos_int kt
    have:=Int.mul_le_mul_of_nonneg_right (show 1<=(2:Int)^(k-kt-1) from by omega) (show 0<=2*(2:Int)^kt from by omega)
    omega
   generalize (2:Int)^k=P at*
   generalize (2:Int)^kt=Q at*
   omega
  obtain⟨τ,hτ⟩:=dvd_up hkt hlt'.eq
  have hbt:rnd (a+b)-rnd (rnd (a+b)-a)=(σ-τ)*2^k:=by rw[Int.sub_mul,<-h2,<-hτ]
  have hA:Rep (rnd (a+b)-rnd (rnd (a+b)-a)):=by
   refine rep_of_mul hbt ?_ ?_
   ·generalize (2:Int)^k=P at*
    omega
   ·generalize (2:Int)^k=P at*
    omega
  have hB:Rep (b-rnd (rnd (a+b)-a)):=by
   refine rep_of_mul (c:=β-τ) (k:=k) (by rw[Int.sub_mul,<-h1,<-hτ]) ?_ ?_
   ·generalize (2:Int)^k=P at*
    omega
   ·generalize (2:Int)^k=P at*
    omega
  have hC:Rep (a-(rnd (a+b)-rnd (rnd (a+b)-a))):=by
   have:=(rep_err (rep_rnd (a+b)) ha.neg).neg
   rw[show rnd (a+b)+-a=rnd (a+b)-a from by omega] at this
   rwa [show-(rnd (a+b)-a-rnd (rnd (a+b)-a))=a-(rnd (a+b)-rnd (rnd (a+b)-a)) from by omega] at this
  exact⟨hA.rnd_eq,hC.rnd_eq,hB.rnd_eq⟩
def sumE(a b:Int):Int:=
 let s:=rnd (a+b)
 let t:=rnd (s-a)
 let u:=rnd (s-t)
 rnd (rnd (a-u)+rnd (b-t))
theorem two_sum{a b:Int}(ha:Rep a)(hb:Rep b):sumE a b=a+b-rnd (a+b):=by
 have h:=two_sum_parts ha hb
 unfold sumE
 simp only
 rw[h.u,h.f,h.d]
 rw[show a-(rnd (a+b)-rnd (rnd (a+b)-a))+(b-rnd (rnd (a+b)-a))=a+b-rnd (a+b) from by omega]
 exact(rep_err ha hb).rnd_eq
theorem rnd_scale(n:Int)(i:Nat):rnd (n*2^i)=rnd n*2^i:=by
 have hp:=pow_pos_int i
 obtain⟨k,q,hl⟩:=rnd_lv n
 by_cases hk:k=0
 ·have hz:=hl.z hk
  subst hk
  have h1:=hl.hi
  have h2:=hl.hi'
  simp at h1 h2
  rw[hz]
  exact Rep.rnd_eq ⟨n,i,rfl,by omega,by omega⟩
 ·obtain⟨k',q',hl'⟩:=rnd_lv (n*2^i)
  have hb:2^52*2^k<=n\/n<=-(2^52*2^k):=by rcases hl.lo with h|h|h;exact absurd h hk;exact .inl h;exact .inr h
  have e1:(2:Int)^(k+i)=2^k*2^i:=Int.pow_add ..
  have hb1:2^52*2^(k+i)<=n*2^i\/n*2^i<=-(2^52*2^(k+i)):=by
   rw[e1,<-Int.mul_assoc,<-Int.neg_mul]
   rcases hb with h|h
   ·exact .inl (Int.mul_le_mul_of_nonneg_right h (Int.le_of_lt hp))
   ·exact .inr (Int.mul_le_mul_of_nonneg_right h (Int.le_of_lt hp))
  have hb2:n*2^i<2^53*2^(k+i)/\-(2^53*2^(k+i))<n*2^i:=by
   rw[e1,<-Int.mul_assoc,<-Int.neg_mul]
   exact⟨Int.mul_lt_mul_of_pos_right hl.hi hp,Int.mul_lt_mul_of_pos_right hl.hi' hp⟩
  have hkk:k'=k+i:=by
   have hlt:∀a b:Nat,a<b->2*(2:Int)^a<=2^b:=by
    intro a b hab
    obtain⟨d,rfl⟩:∃d,b=a+1+d:=⟨b-a-1,by omega⟩
    rw[Int.pow_add,Int.pow_succ]
    have h1:=pow_pos_int d
    have h2:=pow_pos_int a
    have:=Int.mul_le_mul_of_nonneg_left (show 1<=(2:Int)^d from by omega) (show 0<=(2:Int)^a*2 from by omega)
    omega
   have l1:=hl'.hi
   have l2:=hl'.hi'
   rcases Nat.lt_trichotomy k' (k+i) with h|h|h
   ·exfalso
    have:=hlt _ _ h
    generalize (2:Int)^(k+i)=P at*
    generalize (2:Int)^k'=Q at*
    omega
   ·exact h
   ·exfalso
    have:=hlt _ _ h
    have hlo:=hl'.lo
    have hk0:k'≠0:=by omega
    generalize (2:Int)^(k+i)=P at*
    generalize (2:Int)^k'=Q at*
    omega
  subst hkk
  have eq':=hl'.eq
  have eq:=hl.eq
  have u':=hl'.up
  have d':=hl'.dn
  have u:=Int.mul_le_mul_of_nonneg_right hl.up (Int.le_of_lt hp)
  have d:=Int.mul_le_mul_of_nonneg_right hl.dn (Int.le_of_lt hp)
  rw[Int.add_mul,Int.mul_assoc,Int.mul_assoc,<-e1] at u d
  have eq2:rnd n*2^i=q*2^(k+i):=by rw[eq,Int.mul_assoc,<-e1]
  have hpk:=pow_pos_int (k+i)
  by_cases hqq:q'=q
  ·rw[eq',eq2,hqq]
  ·exfalso
   have h1:2^(k+i)<=q'*2^(k+i)-q*2^(k+i)\/2^(k+i)<=q*2^(k+i)-q'*2^(k+i):=by
    rw[<-Int.sub_mul,<-Int.sub_mul]
    by_cases g:q'<q
    ·right
     have:=Int.mul_le_mul_of_nonneg_right (show 1<=q-q' from by omega) (Int.le_of_lt hpk)
     omega
    ·left
     have:=Int.mul_le_mul_of_nonneg_right (show 1<=q'-q from by omega) (Int.le_of_lt hpk)
     omega
   rw[<-eq',<-eq2] at h1
   have ev':=hl'.ev
   have t':2*rnd (n*2^i)=2*(n*2^i)+2^(k+i)\/2*(n*2^i)=2*rnd (n*2^i)+2^(k+i):=by omega
   have t:2*(rnd n*2^i)=2*(n*2^i)+2^(k+i)\/2*(n*2^i)=2*(rnd n*2^i)+2^(k+i):=by omega
   have g1:=ev' t'
   have t2:2*rnd n=2*n+2^k\/2*n=2*rnd n+2^k:=by
    rw[e1,<-Int.mul_assoc,<-Int.mul_assoc,<-Int.add_mul,<-Int.add_mul] at t
    rcases t with t|t
    ·exact .inl (Int.eq_of_mul_eq_mul_right (by omega) t)
    ·exact .inr (Int.eq_of_mul_eq_mul_right (by omega) t)
   have g2:=hl.ev t2
   have:q'-q=1\/q'-q=-1:=by
    have hd:(q'-q)*2^(k+i)=2^(k+i)\/(q'-q)*2^(k+i)=-2^(k+i):=by
     rw[Int.sub_mul,<-eq',<-eq2];omega
    rcases hd with hd|hd
    ·left
     have:(q'-q)*2^(k+i)=1*2^(k+i):=by rw[hd];omega
     exact Int.eq_of_mul_eq_mul_right (by omega) this
    ·right
     have:(q'-q)*2^(k+i)=(-1)*2^(k+i):=by rw[hd];omega
     exact Int.eq_of_mul_eq_mul_right (by omega) this
   omega
theorem mul_abs_le{a b A B:Int}(h1:-A<=a)(h2:a<=A)(h3:-B<=b)(h4:b<=B):-(A*B)<=a*b/\a*b<=A*B:=by
 have hA:0<=A:=by omega
 have hB:0<=B:=by omega
 have hm:(a*b).natAbs<=A.natAbs*B.natAbs:=by
  rw[Int.natAbs_mul]
  exact Nat.mul_le_mul (by omega) (by omega)
 have e:((A.natAbs*B.natAbs:Nat):Int)=A*B:=by
  rw[Int.natCast_mul];rw[show((A.natAbs:Nat):Int)=A from by omega,show((B.natAbs:Nat):Int)=B from by omega]
 omega
theorem rnd_at(n:Int)(k:Nat)(h1:2^52*2^k<=(n.natAbs:Int))(h2:(n.natAbs:Int)<2^53*2^k):
  ∃q:Int,rnd n=q*2^k/\2*(rnd n-n)<=2^k/\2*(n-rnd n)<=2^k:=by
 obtain⟨j,q,hl⟩:=rnd_lv n
 have hlt:∀a b:Nat,a<b->2*(2:Int)^a<=2^b:=by
  intro a b hab
  obtain⟨d,rfl⟩:∃d,b=a+1+d:=⟨b-a-1,by omega⟩
  rw[Int.pow_add,Int.pow_succ]
  have h1:=pow_pos_int d
  have h2:=pow_pos_int a
  have:=Int.mul_le_mul_of_nonneg_left (show 1<=(2:Int)^d from by omega) (show 0<=(2:Int)^a*2 from by omega)
  omega
 have hlo:=hl.lo
 have hhi:=hl.hi
 have hhi':=hl.hi'
 rcases Nat.lt_trichotomy j k with h|h|h
 ·exfalso
  have:=hlt _ _ h
  generalize (2:Int)^k=P at*
  generalize (2:Int)^j=Q at*
  omega
 ·subst h
  have:=hl.up
  have:=hl.dn
  exact⟨q,hl.eq,by omega,by omega⟩
 ·exfalso
  have:=hlt _ _ h
  have hj:j≠0:=by omega
  generalize (2:Int)^k=P at*
  generalize (2:Int)^j=Q at*
  omega
def splitH(a:Int):Int:=
 let c:=rnd (134217729*a)
 let d:=rnd (c-a)
 rnd (c-d)
def splitL(a:Int):Int:=rnd (a-splitH a)
theorem rep_small{n:Int}(h1:n<=2^53)(h2:-2^53<=n):Rep n:=⟨n,0,by simp,h1,h2⟩
theorem split_pos(A:Int)(h1:2^52<=A)(h2:A<2^53):
  ∃g:Int,splitH A=g*134217728/\-67108864<=g/\g<=67108864/\splitL A=A-splitH A/\-67108864<=A-splitH A/\A-splitH A<=67108864:=by
 have e27:(2:Int)^27=134217728:=by decide
 have e28:(2:Int)^28=268435456:=by decide
 have hc:∃q:Int,rnd (134217729*A)=q*134217728/\(2*(rnd (134217729*A)-134217729*A)<=268435456/\2*(134217729*A-rnd (134217729*A))<=268435456)/\
   (134217729*A<2^80->2*(rnd (134217729*A)-134217729*A)<=134217728/\2*(134217729*A-rnd (134217729*A))<=134217728):=by
  by_cases hb:134217729*A<2^80
  ·obtain⟨q,h3,h4,h5⟩:=rnd_at (134217729*A) 27 (by omega) (by omega)
   rw[e27] at h3 h4 h5
   exact⟨q,h3,by omega,λ_=>⟨h4,h5⟩⟩
  ·obtain⟨q,h3,h4,h5⟩:=rnd_at (134217729*A) 28 (by omega) (by omega)
   rw[e28] at h3 h4 h5
   exact⟨q*2,by omega,by omega,λh=>absurd h hb⟩
 obtain⟨q,c1,c2,c3⟩:=hc
 unfold splitL splitH
 simp only
 have hcA:2^79<=rnd (134217729*A)-A/\rnd (134217729*A)-A<=2^80:=by
  refine⟨?_,by omega⟩
  by_cases hb:134217729*A<2^80
  ·have:=c3 hb
   by_cases hA:A=2^52
   ·have:Rep (134217729*A):=⟨134217729,52,by rw[hA],by omega,by omega⟩
    rw[this.rnd_eq];omega
   ·omega
  ·omega
 have hd:∃r:Int,rnd (rnd (134217729*A)-A)=r*134217728/\2*(rnd (rnd (134217729*A)-A)-(rnd (134217729*A)-A))<=134217728/\
   2*((rnd (134217729*A)-A)-rnd (rnd (134217729*A)-A))<=134217728:=by
  by_cases hb:rnd (134217729*A)-A<2^80
  ·obtain⟨r,h3,h4,h5⟩:=rnd_at (rnd (134217729*A)-A) 27 (by omega) (by omega)
   rw[e27] at h3 h4 h5
   exact⟨r,h3,h4,h5⟩
  ·have e:rnd (134217729*A)-A=2^80:=by omega
   have:Rep (rnd (134217729*A)-A):=⟨1,80,by rw[e];decide,by omega,by omega⟩
   rw[this.rnd_eq]
   exact⟨2^53,by rw[e];decide,by omega,by omega⟩
 obtain⟨r,d1,d2,d3⟩:=hd
 generalize hC:rnd (134217729*A)=C at*
 generalize hD:rnd (C-A)=D at*
 have hh:Rep (C-D):=⟨q-r,27,by rw[e27,Int.sub_mul,<-c1,<-d1],by omega,by omega⟩
 rw[hh.rnd_eq]
 have hl:Rep (A-(C-D)):=rep_small (by omega) (by omega)
 rw[hl.rnd_eq]
 exact⟨q-r,by omega,by omega,by omega,rfl,by omega,by omega⟩
theorem splitH_neg(a:Int):splitH (-a)=-splitH a:=by
 unfold splitH
 simp only
 rw[Int.mul_neg,rnd_neg,show-rnd (134217729*a)- -a=-(rnd (134217729*a)-a) from by omega,rnd_neg,
  show-rnd (134217729*a)- -rnd (rnd (134217729*a)-a)=-(rnd (134217729*a)-rnd (rnd (134217729*a)-a)) from by omega,rnd_neg]
theorem splitL_neg(a:Int):splitL (-a)=-splitL a:=by
 unfold splitL
 rw[splitH_neg,show-a- -splitH a=-(a-splitH a) from by omega,rnd_neg]
structure Halves(A:Int):Prop where
 h:∃g:Int,splitH A=g*134217728/\-67108864<=g/\g<=67108864
 e:splitL A=A-splitH A
 lo:-67108864<=splitL A
 hi:splitL A<=67108864
theorem split_halves(A:Int)(h1:2^52<=A.natAbs)(h2:A.natAbs<2^53):Halves A:=by
 by_cases h:0<=A
 ·obtain⟨g,a,b,c,d,e,f⟩:=split_pos A (by omega) (by omega)
  exact⟨⟨g,a,b,c⟩,d,by omega,by omega⟩
 ·obtain⟨g,a,b,c,d,e,f⟩:=split_pos (-A) (by omega) (by omega)
  rw[splitH_neg] at a d e f
  rw[splitL_neg] at d
  exact⟨⟨-g,by omega,by omega,by omega⟩,by omega,by omega,by omega⟩
def prodE(a b p:Int):Int:=
 let h:=splitH a
 let l:=splitL a
 let i:=splitH b
 let m:=splitL b
 rnd (rnd (rnd (rnd (rnd (h*i)-p)+rnd (h*m))+rnd (l*i))+rnd (l*m))
theorem dekker(A B:Int)(hA1:2^52<=A.natAbs)(hA2:A.natAbs<2^53)(hB1:2^52<=B.natAbs)(hB2:B.natAbs<2^53):
  prodE A B (rnd (A*B))=A*B-rnd (A*B):=by
 have hA:=split_halves A hA1 hA2
 have hB:=split_halves B hB1 hB2
 obtain⟨g,hg,g1,g2⟩:=hA.h
 obtain⟨d,hd,d1,d2⟩:=hB.h
 have eA:=hA.e
 have eB:=hB.e
 have l1:=hA.lo
 have l2:=hA.hi
 have m1:=hB.lo
 have m2:=hB.hi
 have hAB:2^104<=(A*B).natAbs/\(A*B).natAbs<2^106:=by
  rw[Int.natAbs_mul]
  constructor
  ·have:=Nat.mul_le_mul hA1 hB1
   omega
  ·have:=Nat.mul_lt_mul'' hA2 hB2
   omega
 have hp:∃q:Int,rnd (A*B)=q*2^52/\rnd (A*B)-A*B<=2^52/\A*B-rnd (A*B)<=2^52:=by
  by_cases hb:(A*B).natAbs<2^105
  ·obtain⟨q,h3,h4,h5⟩:=rnd_at (A*B) 52 (by omega) (by omega)
   exact⟨q,h3,by omega,by omega⟩
  ·obtain⟨q,h3,h4,h5⟩:=rnd_at (A*B) 53 (by omega) (by omega)
   exact⟨q*2,by omega,by omega,by omega⟩
 obtain⟨q,p1,p2,p3⟩:=hp
 unfold prodE
 simp only
 generalize hl:splitL A=l at*
 generalize hm:splitL B=m at*
 generalize hh:splitH A=h at*
 generalize hi:splitH B=i at*
 have b1:=mul_abs_le (A:=67108864) (B:=67108864) g1 g2 d1 d2
 have b2:=mul_abs_le (A:=67108864) (B:=67108864) g1 g2 m1 m2
 have b3:=mul_abs_le (A:=67108864) (B:=67108864) l1 l2 d1 d2
 have b4:=mul_abs_le (A:=67108864) (B:=67108864) l1 l2 m1 m2
 have e1:h*i=(g*d)*18014398509481984:=by
  rw[hg,hd,Int.mul_assoc,<-Int.mul_assoc 134217728 d,Int.mul_comm 134217728 d,Int.mul_assoc,Int.mul_assoc];rfl
 have e2:h*m=(g*m)*134217728:=by rw[hg,Int.mul_assoc,Int.mul_comm 134217728 m,Int.mul_assoc]
 have e3:l*i=(l*d)*134217728:=by rw[hd,Int.mul_assoc]
 have eAB:A*B=h*i+h*m+l*i+l*m:=by
  rw[show A=h+l from by omega,show B=i+m from by omega,Int.add_mul,Int.mul_add,Int.mul_add];omega
 generalize hgd:g*d=gd at*
 generalize hgm:g*m=gm at*
 generalize hld:l*d=ld at*
 generalize hlm:l*m=lm at*
 generalize hhi:h*i=hi' at*
 generalize hhm:h*m=hm' at*
 generalize hli:l*i=li' at*
 generalize hP:rnd (A*B)=p at*
 generalize A*B=AB at*
 have r1:Rep hi':=⟨gd,54,by omega,by omega,by omega⟩
 have r2:Rep hm':=⟨gm,27,by omega,by omega,by omega⟩
 have r3:Rep li':=⟨ld,27,by omega,by omega,by omega⟩
 have r4:Rep lm:=rep_small (by omega) (by omega)
 have s1:Rep (hi'-p):=⟨gd*4-q,52,by omega,by omega,by omega⟩
 have s2:Rep (hi'-p+hm'):=⟨gd*134217728-q*33554432+gm,27,by omega,by omega,by omega⟩
 have s3:Rep (hi'-p+hm'+li'):=rep_small (by omega) (by omega)
 have s4:Rep (hi'-p+hm'+li'+lm):=rep_small (by omega) (by omega)
 rw[r1.rnd_eq,r2.rnd_eq,r3.rnd_eq,r4.rnd_eq,s1.rnd_eq,s2.rnd_eq,s3.rnd_eq,s4.rnd_eq]
 omega
end Fl
namespace Fl
open Ieee
abbrev D:Format:=Ieee.double
def Fnt(x:Nat):Prop:=x<2^64/\x%2^63<2047*2^52
instance (x:Nat):Decidable (Fnt x):=inferInstanceAs (Decidable (_/\_))
def dv:Datum->Int
 |.number s m i=>signed s m (i+1074).toNat
 |_=>0
def iv(x:Nat):Int:=dv (D.read x)
theorem D_least:D.leastPlace=-1074:=by decide
theorem D_binade:D.binade=2^52:=by decide
theorem D_sign:D.signWeight=2^63:=by decide
theorem D_inf:D.infRung=2047*2^52:=by decide
theorem signed_eq(s:Bool)(m k:Nat):signed s m k=(if s then-1 else 1)*(m:Int)*2^k:=by
 unfold signed
 cases s<;>simp[Nat.shiftLeft_eq,Int.neg_mul]
@[irreducible] def Bt:Nat:=2097
theorem Bt_eq:Bt=2097:=by unfold Bt;rfl
@[irreducible] def U:Nat:=1074
theorem U_eq:U=1074:=by unfold U;rfl
theorem read_fin{x:Nat}(h:Fnt x):∃(s:Bool) (m:Nat) (k:Nat),D.read x=.number s m ((k:Int)-1074)/\m<2^53/\k<=2045/\(k=0\/2^52<=m)/\
  iv x=(if s then-1 else 1)*(m:Int)*2^k:=by
 have h2:=h.2
 by_cases hc:x%2^63<2^52
 ·refine⟨x/2^63%2==1,x%2^63,0,?_,by omega,by omega,.inl rfl,?_⟩
  ·unfold Format.read;rw[D_least,D_binade,D_sign];simp only;rw[if_pos hc];rfl
  ·unfold iv Format.read;rw[D_least,D_binade,D_sign];simp only;rw[if_pos hc];simp only[dv];rw[signed_eq];rfl
 ·refine⟨x/2^63%2==1,2^52+x%2^63%2^52,x%2^63/2^52-1,?_,by omega,by omega,.inr (by omega),?_⟩
  ·unfold Format.read;rw[D_least,D_binade,D_sign,D_inf];simp only;rw[if_neg hc,if_pos h2]
   congr 1
  ·unfold iv Format.read;rw[D_least,D_binade,D_sign,D_inf];simp only;rw[if_neg hc,if_pos h2];simp only[dv];rw[signed_eq]
   congr 2;omega
theorem rep_iv{x:Nat}(h:Fnt x):Rep (iv x):=by
 obtain⟨s,m,k,_,h2,_,_,h5⟩:=read_fin h
 refine⟨(if s then-1 else 1)*(m:Int),k,h5,?_,?_⟩<;>cases s<;>simp<;>omega
theorem fin_word{s:Bool}{r:Nat}(h:r<2047*2^52):Fnt (D.word s r):=by
 unfold Format.word Fnt
 rw[D_sign]
 cases s
 ·simp only[Bool.false_eq_true,if_false];omega
 ·simp only[if_true];omega
theorem iv_word{s:Bool}{l q:Nat}(h:l*2^52+q<2047*2^52)(h1:q<=2^53)(h2:l=0\/2^52<=q):
  iv (D.word s (l*2^52+q))=(if s then-1 else 1)*(q:Int)*2^l:=by
 have hw:D.word s (l*2^52+q)%2^63=l*2^52+q/\(D.word s (l*2^52+q)/2^63%2==1)=s:=by
  unfold Format.word
  rw[D_sign]
  cases s
  ·simp only[Bool.false_eq_true,if_false]
   refine⟨by omega,?_⟩
   rw[Nat.div_eq_of_lt (by omega)];rfl
  ·simp only[if_true]
   refine⟨by omega,?_⟩
   rw[show(2^63+(l*2^52+q))/2^63=1 from by omega];rfl
 unfold iv Format.read
 rw[D_least,D_binade,D_sign,D_inf,hw.1,hw.2]
 simp only
 by_cases hc:l*2^52+q<2^52
 ·rw[if_pos hc]
  have:l=0:=by omega
  subst this
  simp only[dv]
  rw[signed_eq]
  simp
 ·rw[if_neg hc,if_pos h]
  simp only[dv]
  rw[signed_eq]
  by_cases hq:q=2^53
  ·rw[show(l*2^52+q)%2^52=0 from by omega,show((-1074:Int)+((l*2^52+q)/2^52-1:Nat)+1074).toNat=l+1 from by omega,hq,Int.pow_succ]
   cases s<;>simp<;>generalize (2:Int)^l=P<;>omega
  ·by_cases hz:q<2^52
   ·have:l=0:=by omega
    omega
   ·rw[show 2^52+(l*2^52+q)%2^52=q from by omega,show((-1074:Int)+((l*2^52+q)/2^52-1:Nat)+1074).toNat=l from by omega]
theorem ce_up(m j d:Nat):ce (m*2^j) (d+j)=ce m d:=by
 unfold ce
 have hj:=Nat.two_pow_pos j
 have e1:m*2^j/2^(d+j)=m/2^d:=by
  rw[Nat.pow_add,Nat.mul_div_mul_right _ _ hj]
 have e2:m*2^j%2^(d+j)=m%2^d*2^j:=by
  rw[Nat.pow_add,Nat.mul_mod_mul_right]
 rw[e1,e2,Nat.pow_add]
 have h1:2^d*2^j<2*(m%2^d*2^j)↔2^d<2*(m%2^d):=by
  rw[<-Nat.mul_assoc,Nat.mul_lt_mul_right hj]
 have h2:2^d*2^j=2*(m%2^d*2^j)↔2^d=2*(m%2^d):=by
  rw[<-Nat.mul_assoc,Nat.mul_left_inj (by omega)]
 simp only[h1,h2]
theorem ce_dn(m j l:Nat)(h:l<=j):ce (m*2^j) l=m*2^(j-l):=by
 have:m*2^j=(m*2^(j-l))*2^l:=by rw[Nat.mul_assoc,<-Nat.pow_add,Nat.sub_add_cancel h]
 rw[this]
 have:=ce_up (m*2^(j-l)) l 0
 rw[Nat.zero_add] at this
 rw[this,ce_zero]
theorem log2_shift(m j:Nat)(h:m≠0):(m*2^j).log2=m.log2+j:=by
 have hp:=Nat.two_pow_pos j
 rw[Nat.log2_eq_iff (by intro e;rcases Nat.mul_eq_zero.1 e with e|e<;>omega)]
 have h1:=Nat.log2_self_le h
 have h2:=@Nat.lt_log2_self m
 constructor
 ·rw[Nat.pow_add];exact Nat.mul_le_mul_right _ h1
 ·rw[show m.log2+j+1=m.log2+1+j from by omega,Nat.pow_add];exact Nat.mul_lt_mul_of_pos_right h2 hp
def lvs(s N:Nat):Nat:=max (N.log2-52) s
def rns(s N:Nat):Nat:=ce N (lvs s N)*2^(lvs s N-s)
theorem rns_zero(N:Nat):rns 0 N=rn N:=by
 unfold rns rn lvs lev
 simp
theorem ce_le{N k:Nat}(h:N<2^(53+k)):ce N k<=2^53:=by
 have hn:=(ce_near N k).1
 rw[Nat.pow_add] at h
 have hP:0<2^k:=Nat.two_pow_pos _
 generalize ce N k=q at*
 generalize 2^k=P at*
 apply Decidable.byContradiction
 intro hc
 have:=Nat.mul_le_mul_right P (show 2^53+1<=q from by omega)
 have e:(2^53+1)*P=2^53*P+P:=by rw[Nat.add_mul,Nat.one_mul]
 omega
theorem ce_ge{N k:Nat}(h:2^(52+k)<=N):2^52<=ce N k:=by
 have hP:0<2^k:=Nat.two_pow_pos _
 unfold ce
 have:2^52<=N/2^k:=by
  rw[Nat.le_div_iff_mul_le hP,<-Nat.pow_add];exact h
 omega
theorem lvs_hi(s N:Nat):N<2^(53+lvs s N):=by
 have h:N<2^(N.log2+1):=Nat.lt_log2_self
 refine Nat.lt_of_lt_of_le h (Nat.pow_le_pow_right (by omega) ?_)
 unfold lvs;omega
theorem lvs_lo(s N:Nat):lvs s N=s\/2^(52+lvs s N)<=N:=by
 unfold lvs
 by_cases h:N.log2-52<=s
 ·left;omega
 ·right
  have h0:N≠0:=by intro e;subst e;simp at h
  have:=Nat.log2_self_le h0
  rwa [show 52+max (N.log2-52) s=N.log2 from by omega]
theorem nearest_spec(neg:Bool)(mag:Nat)(place:Int)(s N:Nat)(hs:0<=place+1074+s)(hN:N=mag*2^(place+1074+s).toNat)(hb:N<2^(Bt+s)):
  Fnt (D.nearest neg mag place)/\iv (D.nearest neg mag place)=(if neg then-1 else 1)*(rns s N:Int):=by
 unfold Format.nearest
 by_cases h0:mag=0
 ·rw[if_pos h0]
  have:=@fin_word neg 0 (by omega)
  refine⟨this,?_⟩
  have h2:=@iv_word neg 0 0 (by decide) (by decide) (.inl rfl)
  simp only[Nat.zero_mul,Nat.add_zero] at h2
  rw[h2,hN,h0]
  simp[rns,ce]
 ·rw[if_neg h0,D_least]
  simp only
  have hl:N.log2=mag.log2+(place+1074+s).toNat:=by rw[hN,log2_shift _ _ h0]
  have efb:D.fractionBits=52:=rfl
  have elast:max (place+(mag.log2:Int)-(D.fractionBits:Int)) (-1074)=(lvs s N:Int)-s-1074:=by
   unfold lvs
   rw[hl,efb]
   omega
  rw[elast]
  have ekept:Toward.even.cut neg (mag <<< (place-((lvs s N:Int)-s-1074)).toNat) ((lvs s N:Int)-s-1074-place).toNat=ce N (lvs s N):=by
   rw[cut_eq,Nat.shiftLeft_eq]
   by_cases hc:place<=(lvs s N:Int)-s-1074
   ·rw[show(place-((lvs s N:Int)-s-1074)).toNat=0 from by omega,Nat.pow_zero,Nat.mul_one]
    rw[hN,<-ce_up mag (place+1074+s).toNat]
    congr 1
    rw[<-hN]
    omega
   ·rw[show((lvs s N:Int)-s-1074-place).toNat=0 from by omega,ce_zero]
    have:=ce_dn mag (place+1074+s).toNat (lvs s N) (by omega)
    rw[<-hN] at this
    rw[this]
    congr 2
    omega
  rw[ekept,D_binade,D_inf,show((lvs s N:Int)-s-1074- -1074).toNat=lvs s N-s from by omega]
  have hq:=ce_le (lvs_hi s N)
  have hlv:lvs s N-s<=2044:=by
   have h1:=lvs_lo s N
   rcases h1 with h1|h1
   ·omega
   ·apply Decidable.byContradiction
    intro hc
    have:2^(Bt+s)<=2^(52+lvs s N):=Nat.pow_le_pow_right (by omega) (by have:=Bt_eq;omega)
    omega
  have hlt:(lvs s N-s)*2^52+ce N (lvs s N)<2047*2^52:=by
   have:=Nat.mul_le_mul_right (2^52) hlv
   omega
  rw[Nat.min_eq_left (by omega)]
  refine⟨fin_word hlt,?_⟩
  rw[iv_word hlt hq ?_]
  ·unfold rns
   rw[Int.mul_assoc]
   congr 1
  ·rcases lvs_lo s N with h1|h1
   ·left;omega
   ·right;exact ce_ge h1
theorem rnd_of_sign(neg:Bool)(n:Int)(h:(neg=true->n<=0)/\(neg=false->0<=n)):(if neg then-1 else 1)*(rn n.natAbs:Int)=rnd n:=by
 unfold rnd
 cases neg
 ·have:=h.2 rfl
  have hn:¬n<0:=by omega
  simp[hn]
 ·have:=h.1 rfl
  by_cases h0:n=0
  ·subst h0;simp[rn_zero]
  ·have hn:n<0:=by omega
   simp[hn]
theorem shl_scale(s:Bool)(m:Nat)(a b:Nat):signed s m (a+b)=signed s m a*2^b:=by
 rw[signed_eq,signed_eq,Int.pow_add,Int.mul_assoc,Int.mul_assoc,Int.mul_assoc]
theorem sum_spec{s t:Bool}{m n k l:Nat}(hb:(signed s m k+signed t n l).natAbs<2^Bt):
  ∃d,(Datum.number s m ((k:Int)-1074)).sum (.number t n ((l:Int)-1074))=some d/\Fnt (D.write d)/\iv (D.write d)=rnd (signed s m k+signed t n l):=by
 refine⟨_,rfl,?_⟩
 simp only[Format.write]
 have key:∀(b:Nat) (T:Int) (z:Bool),(min ((k:Int)-1074) ((l:Int)-1074))=(b:Int)-1074->T*2^b=signed s m k+signed t n l->
   Fnt (D.nearest (if T=0 then z else decide (T<0)) T.natAbs ((b:Int)-1074))/\
   iv (D.nearest (if T=0 then z else decide (T<0)) T.natAbs ((b:Int)-1074))=rnd (signed s m k+signed t n l):=by
  intro b T z hmin hT
  have hp:=pow_pos_int b
  have hN:(signed s m k+signed t n l).natAbs=T.natAbs*2^((b:Int)-1074+1074+(0:Nat)).toNat:=by
   rw[<-hT,Int.natAbs_mul]
   congr 1
   rw[show((b:Int)-1074+1074+(0:Nat)).toNat=b from by omega]
   have:((2^b:Nat):Int)=2^b:=by simp
   omega
  have h:=nearest_spec (if T=0 then z else decide (T<0)) T.natAbs ((b:Int)-1074) 0 _ (by omega) hN (by simpa using hb)
  refine⟨h.1,?_⟩
  rw[h.2,rns_zero]
  by_cases hT0:T=0
  ·have e0:signed s m k+signed t n l=0:=by rw[<-hT,hT0,Int.zero_mul]
   rw[e0]
   simp[rn_zero,rnd_zero]
  ·rw[if_neg hT0]
   apply rnd_of_sign
   rw[<-hT]
   constructor
   ·intro hneg
    have:T<0:=by simpa using hneg
    have:=Int.mul_le_mul_of_nonneg_right (show T<=0 from by omega) (Int.le_of_lt hp)
    rwa [Int.zero_mul] at this
   ·intro hneg
    have:¬T<0:=by simpa using hneg
    exact Int.mul_nonneg (by omega) (Int.le_of_lt hp)
 by_cases hkl:k<=l
 ·have hmin:(min ((k:Int)-1074) ((l:Int)-1074))=(k:Int)-1074:=by omega
  rw[hmin]
  refine key k _ _ hmin ?_
  rw[show((k:Int)-1074-((k:Int)-1074)).toNat=0 from by omega,show((l:Int)-1074-((k:Int)-1074)).toNat=l-k from by omega,Int.add_mul,<-shl_scale,<-shl_scale]
  rw[show 0+k=k from by omega,show l-k+k=l from by omega]
 ·have hmin:(min ((k:Int)-1074) ((l:Int)-1074))=(l:Int)-1074:=by omega
  rw[hmin]
  refine key l _ _ hmin ?_
  rw[show((l:Int)-1074-((l:Int)-1074)).toNat=0 from by omega,show((k:Int)-1074-((l:Int)-1074)).toNat=k-l from by omega,Int.add_mul,<-shl_scale,<-shl_scale]
  rw[show 0+l=l from by omega,show k-l+l=k from by omega]
theorem iv_signed{x:Nat}{s:Bool}{m k:Nat}(h:D.read x=.number s m ((k:Int)-1074)):iv x=signed s m k:=by
 unfold iv
 rw[h]
 simp only[dv]
 rw[show((k:Int)-1074+1074).toNat=k from by omega]
def fadd(x y:Nat):Option Nat:=D.add x y
def fsub(x y:Nat):Option Nat:=D.sub x y
def fmul(x y:Nat):Option Nat:=D.mul x y
def fdiv(x y:Nat):Option Nat:=D.div x y
theorem fadd_spec{x y:Nat}(hx:Fnt x)(hy:Fnt y)(hb:(iv x+iv y).natAbs<2^Bt):
  ∃z,fadd x y=some z/\Fnt z/\iv z=rnd (iv x+iv y):=by
 obtain⟨s,m,k,h1,_⟩:=read_fin hx
 obtain⟨t,n,l,g1,_⟩:=read_fin hy
 rw[iv_signed h1,iv_signed g1] at hb|-
 obtain⟨d,e,f,g⟩:=sum_spec hb
 refine⟨D.write d,?_,f,g⟩
 unfold fadd Format.add
 rw[h1,g1,e];rfl
theorem signed_not(s:Bool)(m k:Nat):signed (!s) m k=-signed s m k:=by
 rw[signed_eq,signed_eq]
 cases s<;>simp[Int.neg_mul]
theorem fsub_spec{x y:Nat}(hx:Fnt x)(hy:Fnt y)(hb:(iv x-iv y).natAbs<2^Bt):
  ∃z,fsub x y=some z/\Fnt z/\iv z=rnd (iv x-iv y):=by
 obtain⟨s,m,k,h1,_⟩:=read_fin hx
 obtain⟨t,n,l,g1,_⟩:=read_fin hy
 rw[iv_signed h1,iv_signed g1] at hb|-
 rw[Int.sub_eq_add_neg,<-signed_not] at hb|-
 obtain⟨d,e,f,g⟩:=sum_spec hb
 refine⟨D.write d,?_,f,g⟩
 unfold fsub Format.sub
 rw[h1,g1]
 show Option.map _ (Datum.sum _ (.number (!t) n _))=_
 rw[e];rfl
theorem order_spec{x y:Nat}(hx:Fnt x)(hy:Fnt y):D.order x y=some (compare (iv x) (iv y)):=by
 obtain⟨s,m,k,h1,_⟩:=read_fin hx
 obtain⟨t,n,l,g1,_⟩:=read_fin hy
 rw[iv_signed h1,iv_signed g1]
 unfold Format.order
 rw[h1,g1]
 simp only[Datum.order]
 have key:∀(a b:Int) (j:Nat),compare a b=compare (a*2^j) (b*2^j):=by
  intro a b j
  have hp:=pow_pos_int j
  have e1:a<b↔a*2^j<b*2^j:=⟨λh=>Int.mul_lt_mul_of_pos_right h hp,λh=>Int.lt_of_mul_lt_mul_right h (Int.le_of_lt hp)⟩
  have e2:a=b↔a*2^j=b*2^j:=⟨λh=>by rw[h],λh=>Int.eq_of_mul_eq_mul_right (by omega) h⟩
  simp only[compare,compareOfLessAndEq,e1,e2]
 by_cases hkl:k<=l
 ·rw[show(min ((k:Int)-1074) ((l:Int)-1074))=(k:Int)-1074 from by omega]
  rw[show((k:Int)-1074-((k:Int)-1074)).toNat=0 from by omega,show((l:Int)-1074-((k:Int)-1074)).toNat=l-k from by omega]
  rw[key _ _ k,<-shl_scale,<-shl_scale,show 0+k=k from by omega,show l-k+k=l from by omega]
 ·rw[show(min ((k:Int)-1074) ((l:Int)-1074))=(l:Int)-1074 from by omega]
  rw[show((l:Int)-1074-((l:Int)-1074)).toNat=0 from by omega,show((k:Int)-1074-((l:Int)-1074)).toNat=k-l from by omega]
  rw[key _ _ l,<-shl_scale,<-shl_scale,show 0+l=l from by omega,show k-l+l=k from by omega]
theorem fmul_spec{x y:Nat}(hx:Fnt x)(hy:Fnt y)(hb:(iv x*iv y).natAbs<2^(Bt+U)):
  ∃z,fmul x y=some z/\Fnt z/\(iv z).natAbs=rns U (iv x*iv y).natAbs/\((0<=iv x*iv y->0<=iv z)/\(iv x*iv y<=0->iv z<=0)):=by
 obtain⟨s,m,k,h1,_⟩:=read_fin hx
 obtain⟨t,n,l,g1,_⟩:=read_fin hy
 rw[iv_signed h1,iv_signed g1] at hb|-
 have hN:(signed s m k*signed t n l).natAbs=(m*n)*2^((k:Int)-1074+((l:Int)-1074)+1074+(U:Nat)).toNat:=by
  rw[show((k:Int)-1074+((l:Int)-1074)+1074+(U:Nat)).toNat=k+l from by have:=U_eq;omega,Int.natAbs_mul]
  have e:∀(s:Bool) (m k:Nat),(signed s m k).natAbs=m*2^k:=by
   intro s m k
   unfold signed
   cases s<;>simp[Nat.shiftLeft_eq]<;>rfl
  rw[e,e,Nat.pow_add,Nat.mul_assoc,Nat.mul_assoc,Nat.mul_left_comm (2^k)]
 have hsp:=nearest_spec (s ^^ t) (m*n) ((k:Int)-1074+((l:Int)-1074)) U _ (by have:=U_eq;omega) hN hb
 refine⟨D.nearest (s ^^ t) (m*n) ((k:Int)-1074+((l:Int)-1074)),?_,hsp.1,?_,?_⟩
 ·unfold fmul Format.mul
  rw[h1,g1];rfl
 ·rw[hsp.2]
  cases(s ^^ t)<;>simp
 ·rw[hsp.2]
  have esg:signed s m k*signed t n l=(if(s ^^ t) then-1 else 1)*((signed s m k*signed t n l).natAbs:Int):=by
   rw[hN,show((k:Int)-1074+((l:Int)-1074)+1074+(U:Nat)).toNat=k+l from by have:=U_eq;omega,signed_eq,signed_eq]
   have em:((m*n*2^(k+l):Nat):Int)=(m:Int)*n*(2^k*2^l):=by rw[Int.natCast_mul,Int.natCast_mul];simp[Int.pow_add]
   rw[em]
   cases s<;>cases t<;>simp[Int.neg_mul,Int.mul_neg,Int.mul_assoc,Int.mul_left_comm]
  cases hst:(s ^^ t)
  ·rw[hst] at esg
   simp only[Bool.false_eq_true,if_false] at esg|-
   refine⟨λ_=>by omega,λh=>?_⟩
   have:(signed s m k*signed t n l).natAbs=0:=by omega
   rw[this];simp[rns,ce]
  ·rw[hst] at esg
   simp only[if_true] at esg|-
   refine⟨λh=>?_,λ_=>by omega⟩
   have:(signed s m k*signed t n l).natAbs=0:=by omega
   rw[this];simp[rns,ce]
theorem rns_mul(s M:Nat):rns s (M*2^s)=rn M:=by
 by_cases h0:M=0
 ·subst h0;simp[rns,rn,ce]
 ·unfold rns rn
  have e:lvs s (M*2^s)=lev M+s:=by unfold lvs lev;rw[log2_shift _ _ h0];omega
  rw[e,ce_up,Nat.add_sub_cancel]
theorem fmul_whole{x y:Nat}{p:Int}(hx:Fnt x)(hy:Fnt y)(hp:iv x*iv y=p*2^U)(hb:p.natAbs<2^Bt):
  ∃z,fmul x y=some z/\Fnt z/\iv z=rnd p:=by
 have e:(iv x*iv y).natAbs=p.natAbs*2^U:=by
  rw[hp,Int.natAbs_mul,Int.natAbs_pow];rfl
 obtain⟨z,h1,h2,h3,h4,h5⟩:=fmul_spec hx hy (by rw[e,Nat.pow_add];exact Nat.mul_lt_mul_of_pos_right hb (Nat.two_pow_pos _))
 refine⟨z,h1,h2,?_⟩
 rw[e,rns_mul] at h3
 rw[hp] at h4 h5
 unfold rnd
 have hq:=pow_pos_int U
 by_cases hn:p<0
 ·rw[if_pos hn]
  have:=h5 (by have:=Int.mul_le_mul_of_nonneg_right (show p<=0 from by omega) (Int.le_of_lt hq);rwa [Int.zero_mul] at this)
  omega
 ·rw[if_neg hn]
  have:=h4 (Int.mul_nonneg (by omega) (Int.le_of_lt hq))
  omega
end Fl
