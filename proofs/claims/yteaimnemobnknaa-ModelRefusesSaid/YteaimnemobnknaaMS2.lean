/- The split radix and the convolution over remainders: plain. -/
import Derived.Test.YteaimnemobnknaaMS1
set_option linter.unusedSimpArgs false
set_option linter.unusedVariables false
namespace Go.Proofs.Yteaimnemobnknaa
theorem fold4{T:Type}(Q:Nat)(V:Nat->Nat->T)(M:Nat)(hM:M<=Q)(g:Nat->T)(u k0:Nat)(hu:u<4)(hk:k0<M):
  foldT M (λh k=>updT (updT (updT (updT h k (V 0 k)) (k+2*Q) (V 2 k)) (k+Q) (V 1 k)) (k+3*Q) (V 3 k)) g (k0+u*Q)=V u k0:=by
 induction M with
 |zero=>omega
 |succ M ih=>
   rw[foldT_succ]
   have hu4:u=0\/u=1\/u=2\/u=3:=by omega
   by_cases e:k0=M
   ·subst e
    rcases hu4 with rfl|rfl|rfl|rfl
    ·show(if k0+0*Q=k0+3*Q then _ else if k0+0*Q=k0+Q then _ else if k0+0*Q=k0+2*Q then _ else if k0+0*Q=k0 then _ else _)=_
     rw[if_neg (by omega),if_neg (by omega),if_neg (by omega),if_pos (by omega)]
    ·show(if k0+1*Q=k0+3*Q then _ else if k0+1*Q=k0+Q then _ else if k0+1*Q=k0+2*Q then _ else if k0+1*Q=k0 then _ else _)=_
     rw[if_neg (by omega),if_pos (by omega)]
    ·show(if k0+2*Q=k0+3*Q then _ else if k0+2*Q=k0+Q then _ else if k0+2*Q=k0+2*Q then _ else if k0+2*Q=k0 then _ else _)=_
     rw[if_neg (by omega),if_neg (by omega),if_pos (by omega)]
    ·show(if k0+3*Q=k0+3*Q then _ else if k0+3*Q=k0+Q then _ else if k0+3*Q=k0+2*Q then _ else if k0+3*Q=k0 then _ else _)=_
     rw[if_pos (by omega)]
   ·have ih':=ih (by omega) (by omega)
    rw[<-ih']
    rcases hu4 with rfl|rfl|rfl|rfl
    ·show(if k0+0*Q=M+3*Q then _ else if k0+0*Q=M+Q then _ else if k0+0*Q=M+2*Q then _ else if k0+0*Q=M then _ else _)=_
     rw[if_neg (by omega),if_neg (by omega),if_neg (by omega),if_neg (by omega)]
    ·show(if k0+1*Q=M+3*Q then _ else if k0+1*Q=M+Q then _ else if k0+1*Q=M+2*Q then _ else if k0+1*Q=M then _ else _)=_
     rw[if_neg (by omega),if_neg (by omega),if_neg (by omega),if_neg (by omega)]
    ·show(if k0+2*Q=M+3*Q then _ else if k0+2*Q=M+Q then _ else if k0+2*Q=M+2*Q then _ else if k0+2*Q=M then _ else _)=_
     rw[if_neg (by omega),if_neg (by omega),if_neg (by omega),if_neg (by omega)]
    ·show(if k0+3*Q=M+3*Q then _ else if k0+3*Q=M+Q then _ else if k0+3*Q=M+2*Q then _ else if k0+3*Q=M then _ else _)=_
     rw[if_neg (by omega),if_neg (by omega),if_neg (by omega),if_neg (by omega)]
section
variable {q : Nat} [NeZero q] {N : Nat} {rt : Int -> Nat -> Fin q} {R : Rg Int} {h : Int -> Fin q}
theorem sumF_turn(m:Nat)(g:Nat->Fin q):sumF (m+1) (λt=>if t=0 then g m else g (t-1))=sumF (m+1) g:=by
 have e:sumF (m+1) (λt=>if t=0 then g m else g (t-1))=g m+sumF m g:=by
  rw[Nat.add_comm,sumF_app]
  congr 1
  ·show 0+g m=_;grind
  ·exact sumF_congr λk _=>by rw[if_neg (by omega)];congr 1;omega
 rw[e,sumF_succ];grind
theorem sum_four(Q:Nat)(hQ:1<=Q)(f:Nat->Fin q):sumF (4*Q) f=sumF (2*Q) (λt=>f (2*t))+sumF Q (λt=>f (4*t+1))+sumF Q (λt=>f (if t=0 then 4*Q-1 else 4*t-1)):=by
 have L4:sumF (4*Q) f=sumF 4 (λb=>sumF Q (λi=>f (b+i*4))):=by
  rw[Nat.mul_comm 4];exact sumF_grid Q 4 f
 have L2:sumF (2*Q) (λt=>f (2*t))=sumF 2 (λb=>sumF Q (λi=>f (2*(b+i*2)))):=by
  rw[Nat.mul_comm 2 Q];exact sumF_grid Q 2 (λt=>f (2*t))
 rw[L4,L2]
 have e4:∀g:Nat->Fin q,sumF 4 g=g 0+g 1+g 2+g 3:=λg=>by
  show 0+g 0+g 1+g 2+g 3=_;grind
 have e2:∀g:Nat->Fin q,sumF 2 g=g 0+g 1:=λg=>by
  show 0+g 0+g 1=_;grind
 rw[e4,e2]
 have a0:sumF Q (λi=>f (2*(0+i*2)))=sumF Q (λi=>f (0+i*4)):=sumF_congr λi _=>by congr 1;omega
 have a1:sumF Q (λi=>f (2*(1+i*2)))=sumF Q (λi=>f (2+i*4)):=sumF_congr λi _=>by congr 1;omega
 have a2:sumF Q (λt=>f (4*t+1))=sumF Q (λi=>f (1+i*4)):=sumF_congr λi _=>by congr 1;omega
 have a3:sumF Q (λt=>f (if t=0 then 4*Q-1 else 4*t-1))=sumF Q (λi=>f (3+i*4)):=by
  obtain⟨m,rfl⟩:∃m,Q=m+1:=⟨Q-1,by omega⟩
  rw[<-sumF_turn m (λi=>f (3+i*4))]
  refine sumF_congr λt _=>?_
  by_cases e:t=0
  ·rw[if_pos e,if_pos e];congr 1;omega
  ·rw[if_neg e,if_neg e];congr 1;omega
 rw[a0,a1,a2,a3]
 grind
theorem Rts.half(H:Rts N rt)(h2:2∣N){s:Int}(hs:s=1\/s=-1):rt s 2=-1:=by
 have o:=H.orth 2 1 (by omega) h2 (by omega)
 have z:=H.zero 2 (by omega) h2
 have o2:rt (1*(0:Nat)) 2+rt (1*(1:Nat)) 2=0:=by
  rw[<-o]
  show _=0+_+_
  grind
 have e1:rt 1 2=-1:=by
  have:rt (1*((0:Nat):Int)) 2=1:=z
  rw[this] at o2
  have e:(1*((1:Nat):Int))=1:=rfl
  rw[e] at o2
  grind
 rcases hs with rfl|rfl
 ·exact e1
 ·have:=H.mod (n:=2) (by omega) h2 1 (-1)
  rw[<-e1,<-this]
  rfl
theorem split_step(H:Hom R N rt h){Q:Nat}(hQ:1<=Q)(hn:4*Q∣N){s:Int}(hs:s=1\/s=-1)(x e z y:Nat->Int)(g:Nat->Int)(he:∀j,j<2*Q->h (e j)=dft rt (2*Q) s (λk=>h (x (2*k))) j)(hz:∀j,j<Q->h (z j)=dft rt Q s (λk=>h (x (4*k+1))) j)(hy:∀j,j<Q->h (y j)=dft rt Q s (λk=>h (x (if k=0 then 4*Q-1 else 4*k-1))) j)(j:Nat)(hj:j<4*Q):h (foldT Q (splitR R (4*Q) s e z y) g j)=dft rt (4*Q) s (λk=>h (x k)) j:=by
 have n1:1<=4*Q:=by omega
 have hQd:Q∣N:=Nat.dvd_trans (Nat.dvd_mul_left _ _) hn
 have h2Q:2*Q∣N:=Nat.dvd_trans ⟨2,by omega⟩ hn
 have h2:2∣N:=Nat.dvd_trans ⟨2*Q,by omega⟩ hn
 have eQ:4*Q/4=Q:=Nat.mul_div_cancel_left _ (by omega)
 obtain⟨k,hk⟩:∃k,j%Q=k:=⟨_,rfl⟩
 obtain⟨u,hu⟩:∃u,j/Q=u:=⟨_,rfl⟩
 have hk':k<Q:=by rw[<-hk];exact Nat.mod_lt _ hQ
 have hu':u<4:=by rw[<-hu];exact Nat.div_lt_of_lt_mul (by rw[Nat.mul_comm];exact hj)
 have ej:j=k+u*Q:=by
  have:=Nat.mod_add_div j Q
  rw[hk,hu,Nat.mul_comm] at this
  omega
 subst ej
 let ii:=R.root (s*((Q:Nat):Int)) ((4*Q:Nat):Int)
 let uu:=λk:Nat=>R.mul (R.root (s*(k:Int)) ((4*Q:Nat):Int)) (z k)
 let vv:=λk:Nat=>R.mul (R.root (s*(-(k:Int))) ((4*Q:Nat):Int)) (y k)
 let V:Nat->Nat->Int:=λw k=>match w with
  |0=>R.add (e k) (R.add (uu k) (vv k))
  |1=>R.add (e (k+Q)) (R.mul ii (R.sub (uu k) (vv k)))
  |2=>R.sub (e k) (R.add (uu k) (vv k))
  |_=>R.sub (e (k+Q)) (R.mul ii (R.sub (uu k) (vv k)))
 have eV:foldT Q (splitR R (4*Q) s e z y) g (k+u*Q)=V u k:=by
  have:splitR R (4*Q) s e z y=λh k=>updT (updT (updT (updT h k (V 0 k)) (k+2*Q) (V 2 k)) (k+Q) (V 1 k)) (k+3*Q) (V 3 k):=by
   funext h k
   unfold splitR
   rw[eQ]
   rfl
  rw[this]
  exact fold4 Q V Q (Nat.le_refl _) g u k hu' hk'
 rw[eV]
 have hi:h ii=rt (s*(Q:Int)) (4*Q):=H.root _ _ n1 hn
 have huu:h (uu k)=rt (s*(k:Int)) (4*Q)*dft rt Q s (λk=>h (x (4*k+1))) k:=by
  show h (R.mul _ _)=_
  rw[H.mul,H.root _ _ n1 hn,hz k hk']
 have hvv:h (vv k)=rt (s*(-(k:Int))) (4*Q)*dft rt Q s (λk=>h (x (if k=0 then 4*Q-1 else 4*k-1))) k:=by
  show h (R.mul _ _)=_
  rw[H.mul,H.root _ _ n1 hn,hy k hk']
 have hd:dft rt (4*Q) s (λk=>h (x k)) (k+u*Q)
   =dft rt (2*Q) s (λk=>h (x (2*k))) (k+u*Q)+rt (s*((k+u*Q:Nat):Int)) (4*Q)*dft rt Q s (λk=>h (x (4*k+1))) k
    +rt (-(s*((k+u*Q:Nat):Int))) (4*Q)*dft rt Q s (λk=>h (x (if k=0 then 4*Q-1 else 4*k-1))) k:=by
  unfold dft
  rw[sum_four Q hQ,<-sumF_left,<-sumF_left]
  obtain⟨J,hJ⟩:∃J,k+u*Q=J:=⟨_,rfl⟩
  have hJk:∀t:Nat,rt (s*((J:Int)*t)) Q=rt (s*((k:Int)*t)) Q:=λt=>by
   rw[<-Int.natCast_mul,<-Int.natCast_mul]
   refine H.rts.red hQ hQd s _ _ ?_
   rw[<-hJ,Nat.add_mul,Nat.mul_right_comm,Nat.add_mul_mod_self_right]
  rw[hJ]
  congr 1
  ·congr 1
   ·refine sumF_congr λt _=>?_
    congr 1
    have e5:=H.rts.scale 2 (2*Q) (s*((J:Int)*t)) (by omega) (by omega) (by rw[show 2*(2*Q)=4*Q from by omega];exact hn)
    rw[show 2*(2*Q)=4*Q from by omega] at e5
    rw[<-e5]
    congr 1
    rw[Int.natCast_mul];grind
   ·refine sumF_congr λt _=>?_
    have e5:=H.rts.scale 4 Q (s*((J:Int)*t)) (by omega) hQ hn
    have e6:s*((J:Int)*((4*t+1:Nat):Int))=s*(J:Int)+((4:Nat):Int)*(s*((J:Int)*t)):=by
     rw[Int.natCast_add,Int.natCast_mul];grind
    rw[e6,H.rts.add _ _ _ n1 hn,e5,hJk]
    grind
  ·refine sumF_congr λt _=>?_
   have e5:=H.rts.scale 4 Q (s*((J:Int)*t)) (by omega) hQ hn
   have e7:rt (s*((J:Int)*((if t=0 then 4*Q-1 else 4*t-1:Nat):Int))) (4*Q)=rt (-(s*(J:Int))) (4*Q)*rt (((4:Nat):Int)*(s*((J:Int)*t))) (4*Q):=by
    rw[<-H.rts.add _ _ _ n1 hn]
    by_cases e:t=0
    ·rw[if_pos e]
     subst e
     have:s*((J:Int)*((4*Q-1:Nat):Int))=-(s*(J:Int))+((4:Nat):Int)*(s*((J:Int)*((0:Nat):Int)))+((4*Q:Nat):Int)*(s*J):=by
      rw[Int.natCast_sub (by omega),Int.natCast_mul];grind
     rw[this,H.rts.mod n1 hn]
    ·rw[if_neg e]
     congr 1
     rw[Int.natCast_sub (by omega),Int.natCast_mul];grind
   rw[e7,e5,hJk]
   grind
 rw[hd]
 have hev:∀a b:Nat,a%(2*Q)=b%(2*Q)->dft rt (2*Q) s (λk=>h (x (2*k))) a=dft rt (2*Q) s (λk=>h (x (2*k))) b:=λa b hab=>by
  unfold dft
  refine sumF_congr λt _=>?_
  congr 1
  rw[<-Int.natCast_mul,<-Int.natCast_mul]
  refine H.rts.red (by omega) h2Q s _ _ ?_
  rw[Nat.mul_mod,hab,<-Nat.mul_mod]
 have i2:rt (s*(Q:Int)) (4*Q)*rt (s*(Q:Int)) (4*Q)=-1:=by
  rw[<-H.rts.add _ _ _ n1 hn,<-H.rts.half h2 hs]
  have:=H.rts.scale (2*Q) 2 s (by omega) (by omega) (by rw[show 2*Q*2=4*Q from by omega];exact hn)
  rw[show 2*Q*2=4*Q from by omega] at this
  rw[<-this]
  congr 1
  rw[Int.natCast_mul];grind
 have i3:rt (-(s*(Q:Int))) (4*Q)=-rt (s*(Q:Int)) (4*Q):=by
  have e1:rt (-(s*(Q:Int))) (4*Q)*rt (s*(Q:Int)) (4*Q)=1:=by
   rw[<-H.rts.add _ _ _ n1 hn,<-H.rts.zero _ n1 hn]
   congr 1;omega
  grind
 have eneg:s*(-(k:Int))=-(s*(k:Int)):=by grind
 have hu4:u=0\/u=1\/u=2\/u=3:=by omega
 have hadd:∀w:Nat,rt (s*((k+w*Q:Nat):Int)) (4*Q)=rt (s*(k:Int)) (4*Q)*rt (s*((w:Int)*Q)) (4*Q):=λw=>by
  rw[<-H.rts.add _ _ _ n1 hn]
  congr 1
  rw[Int.natCast_add,Int.natCast_mul];grind
 have hsub:∀w:Nat,rt (-(s*((k+w*Q:Nat):Int))) (4*Q)=rt (-(s*(k:Int))) (4*Q)*rt (-(s*((w:Int)*Q))) (4*Q):=λw=>by
  rw[<-H.rts.add _ _ _ n1 hn]
  congr 1
  rw[Int.natCast_add,Int.natCast_mul];grind
 have p2:rt (s*(((2:Nat):Int)*Q)) (4*Q)=rt (s*(Q:Int)) (4*Q)*rt (s*(Q:Int)) (4*Q):=by
  rw[<-H.rts.add _ _ _ n1 hn];congr 1;grind
 have p3:rt (s*(((3:Nat):Int)*Q)) (4*Q)=rt (s*(Q:Int)) (4*Q)*(rt (s*(Q:Int)) (4*Q)*rt (s*(Q:Int)) (4*Q)):=by
  rw[<-H.rts.add _ _ _ n1 hn,<-H.rts.add _ _ _ n1 hn];congr 1;grind
 have m2:rt (-(s*(((2:Nat):Int)*Q))) (4*Q)=rt (-(s*(Q:Int))) (4*Q)*rt (-(s*(Q:Int))) (4*Q):=by
  rw[<-H.rts.add _ _ _ n1 hn];congr 1;grind
 have m3:rt (-(s*(((3:Nat):Int)*Q))) (4*Q)=rt (-(s*(Q:Int))) (4*Q)*(rt (-(s*(Q:Int))) (4*Q)*rt (-(s*(Q:Int))) (4*Q)):=by
  rw[<-H.rts.add _ _ _ n1 hn,<-H.rts.add _ _ _ n1 hn];congr 1;grind
 rw[eneg] at hvv
 generalize dft rt Q s (λk=>h (x (4*k+1))) k=zz at*
 generalize dft rt Q s (λk=>h (x (if k=0 then 4*Q-1 else 4*k-1))) k=yy at*
 rcases hu4 with rfl|rfl|rfl|rfl
 ·show h (R.add (e k) (R.add (uu k) (vv k)))=_
  rw[H.add,H.add,huu,hvv,he k (by omega),show k+0*Q=k from by omega]
  grind
 ·show h (R.add (e (k+Q)) (R.mul ii (R.sub (uu k) (vv k))))=_
  have a1:s*(((1:Nat):Int)*Q)=s*(Q:Int):=by grind
  rw[H.add,H.mul,H.sub,huu,hvv,hi,he (k+Q) (by omega),hadd,hsub,a1,i3,Nat.one_mul]
  grind
 ·show h (R.sub (e k) (R.add (uu k) (vv k)))=_
  rw[H.sub,H.add,huu,hvv,he k (by omega),hev (k+2*Q) k (by rw[Nat.add_mod_right]),hadd,hsub,p2,m2,i3,i2]
  grind
 ·show h (R.sub (e (k+Q)) (R.mul ii (R.sub (uu k) (vv k))))=_
  rw[H.sub,H.mul,H.sub,huu,hvv,hi,he (k+Q) (by omega),hev (k+3*Q) (k+Q) (by rw[show k+3*Q=k+Q+2*Q from by omega,Nat.add_mod_right]),hadd,hsub,p3,m3,i3,i2]
  grind
end
theorem surj_of{n:Nat}{s:Nat->Nat}(hm:∀k,k<n->s k<n)(hi:∀k l,k<n->l<n->s k=s l->k=l){y:Nat}(hy:y<n):∃k,k<n/\s k=y:=by
 induction n generalizing s y with
 |zero=>omega
 |succ n ih=>
   have hn:∃j,j<n+1/\s j=n:=by
    apply Classical.byContradiction
    intro hno
    exact sumF_perm.pigeon n s (λk hk=>by
     have:=hm k hk
     have:s k≠n:=λe=>hno ⟨k,hk,e⟩
     omega) hi
   obtain⟨j,hj,hjn⟩:=hn
   by_cases e:y=n
   ·exact⟨j,hj,by omega⟩
   ·obtain⟨k,hk,hky⟩:=ih (s:=λk=>if k=j then s n else s k) (y:=y)
      (λk hk=>by
       show(if k=j then s n else s k)<n
       by_cases e:k=j
       ·rw[if_pos e]
        have:=hm n (by omega)
        have:s n≠n:=λh=>by have:=hi n j (by omega) hj (by omega);omega
        omega
       ·rw[if_neg e]
        have:=hm k (by omega)
        have:s k≠n:=λh=>e (hi k j (by omega) hj (by omega))
        omega)
      (λk l hk hl h=>by
       by_cases e:k=j
       ·by_cases e2:l=j
        ·omega
        ·rw[if_pos e,if_neg e2] at h
         have:=hi n l (by omega) (by omega) h
         omega
       ·by_cases e2:l=j
        ·rw[if_neg e,if_pos e2] at h
         have:=hi k n (by omega) (by omega) h
         omega
        ·rw[if_neg e,if_neg e2] at h
         exact hi k l (by omega) (by omega) h)
      (by omega)
    by_cases e3:k=j
    ·exact⟨n,by omega,by rw[<-hky,if_pos e3]⟩
    ·exact⟨k,by omega,by rw[<-hky,if_neg e3]⟩
section
variable {q : Nat} [NeZero q] {N : Nat} {rt : Int -> Nat -> Fin q} {R : Rg Int} {h : Int -> Fin q}
def cyc(m:Nat)(a b:Nat->Fin q)(k:Nat):Fin q:=sumF m λi=>a i*b ((k+m-i)%m)
theorem sumF_pick(n j:Nat)(f:Nat->Fin q)(hj:j<n)(h0:∀k,k<n->k≠j->f k=0):sumF n f=f j:=by
 rw[<-sumF_one n j f hj]
 refine sumF_congr λk hk=>?_
 by_cases e:k=j
 ·rw[if_pos e]
 ·rw[if_neg e,h0 k hk e]
theorem Rts.orth'(H:Rts N rt){m:Nat}(m1:1<=m)(hm:m∣N)(j:Int):sumF m (λk=>rt (j*k) m)=if(m:Int)∣j then sumF m (λ_=>1) else 0:=by
 by_cases e:(m:Int)∣j
 ·rw[if_pos e]
  obtain⟨t,rfl⟩:=e
  refine sumF_congr λk _=>?_
  rw[Int.mul_assoc]
  exact H.full m _ m1 hm
 ·rw[if_neg e];exact H.orth m j m1 hm e
theorem conv_cyc(H:Hom R N rt h){m:Nat}(m1:1<=m)(hm:m∣N)(K:Tr Int)(hK:∀s,s=1\/s=-1->∀x j,j<m->h (K s x j)=dft rt m s (λk=>h (x k)) j)(a b:Nat->Int)(k:Nat)(hk:k<m):h (convF R m K a b k)=cyc m (λi=>h (a i)) (λi=>h (b i)) k:=by
 have hsum:h (K (-1) (timesF R (K 1 a) (K 1 b)) k)=cyc m (λi=>h (a i)) (λi=>h (b i)) k*h m:=by
  rw[hK (-1) (.inr rfl) _ _ hk]
  unfold dft cyc
  rw[H.many m,<-sumF_right]
  have e1:∀j,j<m->h (timesF R (K 1 a) (K 1 b) j)*rt (-1*((k:Int)*j)) m=sumF m λi=>sumF m λl=>h (a i)*h (b l)*rt (((i:Int)+l-k)*j) m:=λj hj=>by
   unfold timesF
   rw[H.mul,hK 1 (.inl rfl) _ _ hj,hK 1 (.inl rfl) _ _ hj]
   unfold dft
   rw[Fin.mul_assoc,<-sumF_right]
   refine sumF_congr λi _=>?_
   rw[<-sumF_right,<-sumF_left]
   refine sumF_congr λl _=>?_
   have e2:(((i:Int)+l-k)*j)=(1*((j:Int)*i))+((1*((j:Int)*l))+(-1*((k:Int)*j))):=by grind
   rw[e2,H.rts.add _ _ _ m1 hm,H.rts.add _ _ _ m1 hm]
   grind
  rw[sumF_congr e1,sumF_comm]
  refine sumF_congr λi hi=>?_
  rw[sumF_comm]
  have e3:∀l,l<m->sumF m (λj=>h (a i)*h (b l)*rt (((i:Int)+l-k)*j) m)=h (a i)*h (b l)*(if(m:Int)∣((i:Int)+l-k) then sumF m (λ_=>1) else 0):=λl _=>by
   rw[sumF_left,H.rts.orth' m1 hm]
  rw[sumF_congr e3]
  obtain⟨l0,hl0⟩:∃l0,(k+m-i)%m=l0:=⟨_,rfl⟩
  have hl0':l0<m:=by rw[<-hl0];exact Nat.mod_lt _ m1
  have hcase:(i<=k/\l0=k-i)\/(k<i/\l0=k+m-i):=by
   by_cases e:i<=k
   ·left
    refine⟨e,?_⟩
    rw[<-hl0,show k+m-i=(k-i)+m from by omega,Nat.add_mod_right,Nat.mod_eq_of_lt (by omega)]
   ·right
    refine⟨by omega,?_⟩
    rw[<-hl0,Nat.mod_eq_of_lt (by omega)]
  rw[sumF_pick m l0 _ hl0' λl hl hne=>?_]
  ·rw[if_pos]
   ·rw[hl0]
   ·rcases hcase with⟨e,rfl⟩|⟨e,rfl⟩
    ·exact⟨0,by omega⟩
    ·exact⟨1,by omega⟩
  ·rw[if_neg]
   ·grind
   ·rintro⟨t,ht⟩
    have t1:-2<t:=by
     apply Classical.byContradiction
     intro hh
     have:=Int.mul_le_mul_of_nonneg_left (show t<=-2 by omega) (show(0:Int)<=m by omega)
     omega
    have t2:t<2:=by
     apply Classical.byContradiction
     intro hh
     have:=Int.mul_le_mul_of_nonneg_left (show 2<=t by omega) (show(0:Int)<=m by omega)
     omega
    have:t=-1\/t=0\/t=1:=by omega
    rcases this with rfl|rfl|rfl<;>omega
 have ho:=H.over (K (-1) (timesF R (K 1 a) (K 1 b)) k) m m1 hm
 have hi:=H.over 1 m m1 hm
 rw[H.one] at hi
 show h (R.over (K (-1) (timesF R (K 1 a) (K 1 b)) k) m)=_
 rw[hsum] at ho
 grind
structure Pws(n:Nat)(pw:Nat->Nat):Prop where
 pos:∀k,k<n-1->1<=pw k
 lt:∀k,k<n-1->pw k<n
 inj:∀k l,k<n-1->l<n-1->pw k=pw l->k=l
 mul:∀k l,k<n-1->l<n-1->pw ((k+l)%(n-1))%n=pw k*pw l%n
theorem rader_dft(H:Hom R N rt h){n:Nat}(n3:3<=n)(hn:n∣N)(hm:n-1∣N){s:Int}(hs:s=1\/s=-1)(K:Tr Int)(hK:∀s,s=1\/s=-1->∀x j,j<n-1->h (K s x j)=dft rt (n-1) s (λk=>h (x k)) j){pw:Nat->Nat}(P:Pws n pw)(x:Nat->Int)(y:Nat)(hy:y<n):h (raderF R n pw K s x y)=dft rt n s (λk=>h (x k)) y:=by
 obtain⟨m,rfl⟩:∃m,n=m+1:=⟨n-1,by omega⟩
 have em:m+1-1=m:=rfl
 have hpos:=P.pos
 have hlt:=P.lt
 have hinj:=P.inj
 have hmul:=P.mul
 rw[em] at hpos hlt hinj hmul hm hK
 have m1:1<=m:=by omega
 unfold raderF
 rw[em]
 generalize hc:convF R m K (raderA pw x) (raderB R (m+1) s pw)=c
 have hplace:∀k,k<m->((m-k)%m=if k=0 then 0 else m-k):=λk hk=>by
  by_cases e:k=0
  ·rw[if_pos e,e,Nat.sub_zero,Nat.mod_self]
  ·rw[if_neg e,Nat.mod_eq_of_lt (by omega)]
 have hpl:∀k,k<m->(m-k)%m<m:=λk _=>Nat.mod_lt _ m1
 by_cases e0:y=0
 ·subst e0
  unfold raderO
  rw[em,fold_upd_ne m (λk=>pw ((m-k)%m)) (λk=>R.add (x 0) (c k)) _ 0 λk hk=>by have:=hpos _ (hpl k hk);omega]
  show h (sumT R (m+1) x)=_
  unfold sumT dft
  rw[H.fold]
  refine sumF_congr λk _=>?_
  have:s*(((0:Nat):Int)*(k:Int))=0:=by simp
  rw[this,H.rts.zero _ (by omega) hn]
  grind
 ·
  obtain⟨t,ht,hty⟩:∃t,t<m/\pw t-1=y-1:=surj_of (n:=m) (s:=λk=>pw k-1) (y:=y-1) (λk hk=>by have:=hlt k hk;have:=hpos k hk;omega) (λk l hk hl e=>hinj k l hk hl (by have:=hpos k hk;have:=hpos l hl;omega)) (by omega)
  have hty:pw t=y:=by have:=hpos t ht;omega
  obtain⟨k,hk,hkt⟩:∃k,k<m/\(m-k)%m=t:=by
   by_cases e:t=0
   ·exact⟨0,m1,by rw[Nat.sub_zero,Nat.mod_self,e]⟩
   ·exact⟨m-t,by omega,by rw[show m-(m-t)=t from by omega,Nat.mod_eq_of_lt ht]⟩
  have hev:raderO R (m+1) pw x c m y=R.add (x 0) (c k):=by
   unfold raderO
   rw[em]
   have:=fold_upd_at m (λk=>pw ((m-k)%m)) (λk=>R.add (x 0) (c k)) (updT (λ_=>R.zero) 0 (sumT R (m+1) x)) k hk λl hl e=>by
    have e2:=hinj _ _ (hpl l hl) (hpl k hk) e
    rw[hplace l hl,hplace k hk] at e2
    by_cases a:l=0
    ·by_cases b:k=0
     ·omega
     ·rw[if_pos a,if_neg b] at e2;omega
    ·by_cases b:k=0
     ·rw[if_neg a,if_pos b] at e2;omega
     ·rw[if_neg a,if_neg b] at e2;omega
   rw[hkt,hty] at this
   exact this
  rw[hev,H.add,<-hc,conv_cyc H m1 hm K hK _ _ k hk]
  unfold cyc dft
  have happ:sumF (m+1) (λk=>h (x k)*rt (s*((y:Int)*k)) (m+1))=sumF 1 (λk=>h (x k)*rt (s*((y:Int)*k)) (m+1))+sumF m (λk=>h (x (1+k))*rt (s*((y:Int)*((1+k:Nat):Int))) (m+1)):=by
   have:=sumF_app 1 m (λk=>h (x k)*rt (s*((y:Int)*k)) (m+1))
   rw[<-this,Nat.add_comm m 1]
  have z0:sumF 1 (λk=>h (x k)*rt (s*((y:Int)*k)) (m+1))=h (x 0):=by
   have:s*((y:Int)*((0:Nat):Int))=0:=by simp
   show 0+h (x 0)*rt (s*((y:Int)*((0:Nat):Int))) (m+1)=_
   rw[this,H.rts.zero _ (by omega) hn]
   grind
  rw[happ,z0]
  congr 1
  have hp:=sumF_perm m (λk=>pw k-1) (λk=>h (x (1+k))*rt (s*((y:Int)*((1+k:Nat):Int))) (m+1)) (λk hk=>by have:=hlt k hk;have:=hpos k hk;omega) (λk l hk hl e=>hinj k l hk hl (by have:=hpos k hk;have:=hpos l hl;omega))
  rw[<-hp]
  refine sumF_congr λi hi=>?_
  have e1:1+(pw i-1)=pw i:=by have:=hpos i hi;omega
  show h (x (pw i))*h (R.root (s*((pw ((m+1-1-(k+m-i)%m)%(m+1-1)):Nat):Int)) ((m+1:Nat):Int))=h (x (1+(pw i-1)))*rt (s*((y:Int)*((1+(pw i-1):Nat):Int))) (m+1)
  rw[e1,em,H.root _ _ (by omega) hn]
  congr 1
  rw[<-Int.natCast_mul]
  refine H.rts.red (by omega) hn s _ _ ?_
  rw[<-hty,<-hmul t i ht hi]
  congr 2
  rw[<-hkt]
  have hi1:(k+m-i)%m=if i<=k then k-i else k+m-i:=by
   by_cases e:i<=k
   ·rw[if_pos e,show k+m-i=(k-i)+m from by omega,Nat.add_mod_right,Nat.mod_eq_of_lt (by omega)]
   ·rw[if_neg e,Nat.mod_eq_of_lt (by omega)]
  rw[hi1,hplace k hk]
  by_cases e:i<=k
  ·rw[if_pos e]
   by_cases a:k=0
   ·subst a
    rw[if_pos rfl,show i=0 from by omega]
    simp
   ·rw[if_neg a]
    by_cases b:i=k
    ·rw[b,show m-k+k=m from by omega,show m-(k-k)=m from by omega]
    ·rw[show m-(k-i)=m-k+i from by omega]
  ·rw[if_neg e,show m-(k+m-i)=i-k from by omega]
   by_cases a:k=0
   ·rw[if_pos a,a];simp
   ·rw[if_neg a,show m-k+i=(i-k)+m from by omega,Nat.add_mod_right]
end
section
variable {T : Type} (R : Rg T)
theorem blueB_at(n m:Nat)(s:Int)(hm:2*n-1<=m)(n1:1<=n)(M:Nat)(hM:M<=n)(k:Nat)(hk:k<M):blueB R n m s M k=blueD R n s k/\blueB R n m s M ((m-k)%m)=blueD R n s k:=by
 induction M with
 |zero=>omega
 |succ M ih=>
   have e:∀y,blueB R n m s (M+1) y=if y=(m-M)%m then blueD R n s M else if y=M then blueD R n s M else blueB R n m s M y:=λ_=>rfl
   have hz:(m-0)%m=0:=by rw[Nat.sub_zero,Nat.mod_self]
   have hp:∀l,1<=l->l<m->(m-l)%m=m-l:=λl h1 h2=>Nat.mod_eq_of_lt (by omega)
   rw[e,e]
   by_cases a:k=M
   ·subst a
    rw[if_pos rfl,if_pos rfl]
    exact⟨by by_cases b:k=(m-k)%m
             ·rw[if_pos b]
             ·rw[if_neg b],rfl⟩
   ·obtain⟨h1,h2⟩:=ih (by omega) (by omega)
    rw[h1,h2]
    rw[hp M (by omega) (by omega),if_neg (by omega),if_neg (by omega)]
    refine⟨rfl,?_⟩
    by_cases b:k=0
    ·subst b
     rw[hz,if_neg (by omega),if_neg (by omega)]
    ·rw[hp k (by omega) (by omega),if_neg (by omega),if_neg (by omega)]
end
section
variable {q : Nat} [NeZero q] {N : Nat} {rt : Int -> Nat -> Fin q} {R : Rg Int} {h : Int -> Fin q}
theorem sumF_part(n m:Nat)(hnm:n<=m)(f:Nat->Fin q)(h0:∀k,n<=k->k<m->f k=0):sumF m f=sumF n f:=by
 obtain⟨d,rfl⟩:∃d,m=n+d:=⟨m-n,by omega⟩
 rw[sumF_app,sumF_congr (n:=d) (g:=λ_=>0) λk hk=>h0 _ (by omega) (by omega),sumF_zero]
 grind
theorem blue_dft(H:Hom R N rt h){n m:Nat}(n1:1<=n)(hn:2*n∣N)(hm:m∣N)(hnm:2*n-1<=m){s:Int}(hs:s=1\/s=-1)(K:Tr Int)(hK:∀s,s=1\/s=-1->∀x j,j<m->h (K s x j)=dft rt m s (λk=>h (x k)) j)(x:Nat->Int)(y:Nat)(hy:y<n):h (blueF R n m K s x y)=dft rt n s (λk=>h (x k)) y:=by
 have m1:1<=m:=by omega
 have hn':n∣N:=Nat.dvd_trans (Nat.dvd_mul_left _ _) hn
 have hC:∀k,h (blueC R n s k)=rt (s*((k*k:Nat):Int)) (2*n):=λk=>by
  show h (R.root _ _)=_
  rw[H.root _ _ (by omega) hn]
  exact H.rts.red (by omega) hn s _ _ (by unfold sqr;rw[Nat.mod_mod])
 have hD:∀k,h (blueD R n s k)=rt (-s*((k*k:Nat):Int)) (2*n):=λk=>by
  show h (R.root _ _)=_
  rw[H.root _ _ (by omega) hn]
  have:s*(-((sqr n k:Nat):Int))=-s*((sqr n k:Nat):Int):=by grind
  rw[this]
  exact H.rts.red (by omega) hn (-s) _ _ (by unfold sqr;rw[Nat.mod_mod])
 unfold blueF timesF
 rw[H.mul,conv_cyc H m1 hm K hK _ _ y (by omega),hC]
 unfold cyc dft
 rw[sumF_part n m (by omega) _ λk h1 h2=>by
  show h (if k<n then _ else R.zero)*_=0
  rw[if_neg (by omega),H.zero];grind]
 rw[<-sumF_right]
 refine sumF_congr λk hk=>?_
 have hA:h (blueA R n s x n k)=h (x k)*rt (s*((k*k:Nat):Int)) (2*n):=by
  show h (if k<n then _ else R.zero)=_
  rw[if_pos hk,H.mul,hC]
 have hB:h (blueB R n m s n ((y+m-k)%m))=rt (-s*(((y:Int)-k)*((y:Int)-k))) (2*n):=by
  by_cases e:k<=y
  ·have e1:(y+m-k)%m=y-k:=by rw[show y+m-k=(y-k)+m from by omega,Nat.add_mod_right,Nat.mod_eq_of_lt (by omega)]
   rw[e1,(blueB_at R n m s hnm n1 n (Nat.le_refl _) (y-k) (by omega)).1,hD]
   congr 2
   rw[Int.natCast_mul,Int.natCast_sub e]
  ·have e1:(y+m-k)%m=(m-(k-y))%m:=by rw[show y+m-k=m-(k-y) from by omega]
   rw[e1,(blueB_at R n m s hnm n1 n (Nat.le_refl _) (k-y) (by omega)).2,hD]
   congr 2
   rw[Int.natCast_mul,Int.natCast_sub (by omega)]
   grind
 show h (blueA R n s x n k)*h (blueB R n m s n ((y+m-k)%m))*rt (s*((y*y:Nat):Int)) (2*n)=h (x k)*rt (s*((y:Int)*k)) n
 rw[hA,hB]
 have e5:=H.rts.scale 2 n (s*((y:Int)*k)) (by omega) n1 hn
 have e6:((2:Nat):Int)*(s*((y:Int)*k))=s*((k*k:Nat):Int)+(-s*(((y:Int)-k)*((y:Int)-k))+s*((y*y:Nat):Int)):=by
  rw[Int.natCast_mul,Int.natCast_mul];grind
 rw[<-e5,e6,H.rts.add _ _ _ (by omega) hn,H.rts.add _ _ _ (by omega) hn]
 grind
theorem split_dft(H:Hom R N rt h){s:Int}(hs:s=1\/s=-1)(f:Nat):∀n k,n=2^k->n<=f+1->n∣N->∀(x:Nat->Int) (j:Nat),j<n->h (splitF R f n s x j)=dft rt n s (λk=>h (x k)) j:=by
 induction f with
 |zero=>
   intro n k hk hf hn x j hj
   exact direct_dft H (by omega) hn hs x j
 |succ f ih=>
   intro n k hk hf hn x j hj
   by_cases h4:n<4
   ·show h ((if n<4 then directF R n s x else _) j)=_
    rw[if_pos h4]
    exact direct_dft H (by omega) hn hs x j
   ·show h ((if n<4 then directF R n s x else _) j)=_
    rw[if_neg h4]
    obtain⟨t,rfl⟩:∃t,k=t+2:=⟨k-2,by
     have:¬k<2:=λhk2=>by
      have:k=0\/k=1:=by omega
      rcases this with rfl|rfl<;>omega
     omega⟩
    obtain⟨Q,hQ⟩:∃Q,2^t=Q:=⟨_,rfl⟩
    have e4:n=4*Q:=by rw[hk,<-hQ,Nat.pow_add];omega
    have hQ1:1<=Q:=by omega
    subst e4
    have d2:4*Q/2=2*Q:=by omega
    have d4:4*Q/4=Q:=by omega
    rw[d2,d4]
    refine split_step H hQ1 hn hs x _ _ _ _ (λj hj=>?_) (λj hj=>?_) (λj hj=>?_) j hj
    ·rw[ih (2*Q) (t+1) (by rw[Nat.pow_succ,hQ,Nat.mul_comm]) (by omega) (Nat.dvd_trans ⟨2,by omega⟩ hn) _ j hj]
     unfold dft gathT
     exact sumF_congr λi _=>by show h (x (0+i*2))*_=h (x (2*i))*_;rw[show 0+i*2=2*i from by omega]
    ·rw[ih Q t hQ.symm (by omega) (Nat.dvd_trans (Nat.dvd_mul_left _ _) hn) _ j hj]
     unfold dft gathT
     exact sumF_congr λi _=>by show h (x (1+i*4))*_=h (x (4*i+1))*_;rw[show 1+i*4=4*i+1 from by omega]
    ·rw[ih Q t hQ.symm (by omega) (Nat.dvd_trans (Nat.dvd_mul_left _ _) hn) _ j hj]
     unfold dft consT gathT
     refine sumF_congr λi _=>?_
     show h (if i=0 then _ else x (3+(i-1)*4))*_=h (x (if i=0 then _ else _))*_
     by_cases e:i=0
     ·rw[if_pos e,if_pos e]
     ·rw[if_neg e,if_neg e,show 3+(i-1)*4=4*i-1 from by omega]
end
end Go.Proofs.Yteaimnemobnknaa
