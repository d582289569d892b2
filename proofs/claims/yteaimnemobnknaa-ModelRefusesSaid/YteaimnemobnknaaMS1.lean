/- Sums over remainders by a number: plain laws. -/

set_option linter.unusedSimpArgs false
set_option linter.unusedVariables false
namespace Go.Proofs.Yteaimnemobnknaa
def sumF{q:Nat}[NeZero q]:Nat->(Nat->Fin q)->Fin q
 |0,_=>0
 |n+1,f=>sumF n f+f n
section
variable {q : Nat} [NeZero q]
theorem sumF_succ(n:Nat)(f:Nat->Fin q):sumF (n+1) f=sumF n f+f n:=rfl
theorem sumF_nil(f:Nat->Fin q):sumF 0 f=0:=rfl
theorem sumF_congr{n:Nat}{f g:Nat->Fin q}(h:∀k,k<n->f k=g k):sumF n f=sumF n g:=by
 induction n with
 |zero=>rfl
 |succ n ih=>rw[sumF_succ,sumF_succ,ih λk hk=>h k (by omega),h n (by omega)]
theorem sumF_zero(n:Nat):sumF n (λ_=>(0:Fin q))=0:=by
 induction n with
 |zero=>rfl
 |succ n ih=>rw[sumF_succ,ih];grind
theorem sumF_add(n:Nat)(f g:Nat->Fin q):sumF n (λk=>f k+g k)=sumF n f+sumF n g:=by
 induction n with
 |zero=>rw[sumF_nil,sumF_nil,sumF_nil];grind
 |succ n ih=>rw[sumF_succ,sumF_succ,sumF_succ,ih];grind
theorem sumF_left(n:Nat)(c:Fin q)(f:Nat->Fin q):sumF n (λk=>c*f k)=c*sumF n f:=by
 induction n with
 |zero=>rw[sumF_nil,sumF_nil];grind
 |succ n ih=>rw[sumF_succ,sumF_succ,ih];grind
theorem sumF_right(n:Nat)(c:Fin q)(f:Nat->Fin q):sumF n (λk=>f k*c)=sumF n f*c:=by
 induction n with
 |zero=>rw[sumF_nil,sumF_nil];grind
 |succ n ih=>rw[sumF_succ,sumF_succ,ih];grind
theorem sumF_comm(n m:Nat)(f:Nat->Nat->Fin q):sumF n (λi=>sumF m (λj=>f i j))=sumF m (λj=>sumF n (λi=>f i j)):=by
 induction n with
 |zero=>
   rw[sumF_nil]
   exact(sumF_zero m).symm
 |succ n ih=>
   rw[sumF_succ,ih,<-sumF_add]
   rfl
theorem sumF_app(n m:Nat)(f:Nat->Fin q):sumF (n+m) f=sumF n f+sumF m (λk=>f (n+k)):=by
 induction m with
 |zero=>rw[sumF_nil];show sumF n f=_;grind
 |succ m ih=>show sumF (n+m) f+f (n+m)=_;rw[ih,sumF_succ];grind
theorem sumF_grid(r c:Nat)(f:Nat->Fin q):sumF (r*c) f=sumF c (λb=>sumF r (λi=>f (b+i*c))):=by
 rw[sumF_comm]
 induction r with
 |zero=>rw[Nat.zero_mul,sumF_nil,sumF_nil]
 |succ r ih=>
   rw[Nat.succ_mul,sumF_app,ih,sumF_succ]
   congr 1
   exact sumF_congr λk _=>by rw[Nat.add_comm]
theorem sumF_one(n j:Nat)(f:Nat->Fin q)(hj:j<n):sumF n (λk=>if k=j then f k else 0)=f j:=by
 induction n with
 |zero=>omega
 |succ n ih=>
   rw[sumF_succ]
   by_cases e:n=j
   ·subst e
    rw[if_pos rfl,sumF_congr (g:=λ_=>0) λk hk=>by rw[if_neg (by omega)],sumF_zero]
    grind
   ·rw[ih (by omega),if_neg e];grind
theorem sumF_perm(n:Nat)(s:Nat->Nat)(f:Nat->Fin q)(hm:∀k,k<n->s k<n)(hi:∀k l,k<n->l<n->s k=s l->k=l):sumF n (λk=>f (s k))=sumF n f:=by
 induction n generalizing s f with
 |zero=>rfl
 |succ n ih=>
   have hex:∃j,j<n+1/\s j=n:=by
    apply Classical.byContradiction
    intro hno
    have hlt:∀k,k<n+1->s k<n:=λk hk=>by
     have:=hm k hk
     have:s k≠n:=λe=>hno ⟨k,hk,e⟩
     omega
    exact pigeon n s hlt hi
   obtain⟨j,hj,hjn⟩:=hex
   have ht:=ih (λk=>if k=j then s n else s k) f
    (λk hk=>by
     show(if k=j then s n else s k)<n
     by_cases e:k=j
     ·rw[if_pos e]
      have:=hm n (by omega)
      have:s n≠n:=λh=>by have:=hi n j (by omega) hj (by omega);omega
      omega
     ·rw[if_neg e]
      have:=hm k (by omega)
      have:s k≠n:=λh=>e (hi k j (by omega) hj (by omega))
      omega)
    (λk l hk hl h=>by
     by_cases e:k=j
     ·by_cases e2:l=j
      ·omega
      ·rw[if_pos e,if_neg e2] at h
       have:=hi n l (by omega) (by omega) h
       omega
     ·by_cases e2:l=j
      ·rw[if_neg e,if_pos e2] at h
       have:=hi k n (by omega) (by omega) h
       omega
      ·rw[if_neg e,if_neg e2] at h
       exact hi k l (by omega) (by omega) h)
   rw[sumF_succ,sumF_succ,<-ht]
   by_cases e:j=n
   ·subst e
    rw[hjn]
    congr 1
    exact sumF_congr λk hk=>by rw[if_neg (by omega)]
   ·have h1:sumF n (λk=>f (s k))=sumF n (λk=>(if k=j then f (s k) else 0)+(if k=j then 0 else f (s k))):=sumF_congr λk _=>by
      by_cases e:k=j
      ·rw[if_pos e,if_pos e];grind
      ·rw[if_neg e,if_neg e];grind
    have h2:sumF n (λk=>f (if k=j then s n else s k))=sumF n (λk=>(if k=j then f (s n) else 0)+(if k=j then 0 else f (s k))):=sumF_congr λk _=>by
     by_cases e:k=j
     ·rw[if_pos e,if_pos e,if_pos e];grind
     ·rw[if_neg e,if_neg e,if_neg e];grind
    rw[h1,h2,sumF_add,sumF_add,sumF_one n j (λk=>f (s k)) (by omega),sumF_one n j (λ_=>f (s n)) (by omega),hjn]
    grind
where
 pigeon:∀(n:Nat) (s:Nat->Nat),(∀k,k<n+1->s k<n)->(∀k l,k<n+1->l<n+1->s k=s l->k=l)->False:=by
  intro n
  induction n with
  |zero=>intro s h _;have:=h 0 (by omega);omega
  |succ n ih=>
    intro s h hi
    refine ih (λk=>if s k=n then s (n+1) else s k) (λk hk=>?_) (λk l hk hl e=>?_)
    ·by_cases e:s k=n
     ·rw[if_pos e]
      have:=h (n+1) (by omega)
      have:s (n+1)≠n:=λe2=>by have:=hi k (n+1) (by omega) (by omega) (by omega);omega
      omega
     ·rw[if_neg e]
      have:=h k (by omega)
      omega
    ·by_cases e1:s k=n
     ·by_cases e2:s l=n
      ·exact hi k l (by omega) (by omega) (by omega)
      ·rw[if_pos e1,if_neg e2] at e
       have:=hi (n+1) l (by omega) (by omega) e
       omega
     ·by_cases e2:s l=n
      ·rw[if_neg e1,if_pos e2] at e
       have:=hi k (n+1) (by omega) (by omega) e
       omega
      ·rw[if_neg e1,if_neg e2] at e
       exact hi k l (by omega) (by omega) e
end
structure Rg(T:Type) where
 zero:T
 add:T->T->T
 sub:T->T->T
 mul:T->T->T
 over:T->Int->T
 root:Int->Int->T
def foldT{T:Type}:Nat->(T->Nat->T)->T->T
 |0,_,z=>z
 |n+1,f,z=>f (foldT n f z) n
def updT{T:Type}(f:Nat->T)(j:Nat)(v:T):Nat->T:=λi=>if i=j then v else f i
def unitI(s:Int):Int:=if s<0 then-1 else 1
section
variable {T : Type} (R : Rg T)
def dotF(n:Nat)(s:Int)(x:Nat->T)(j:Nat):Nat->T:=λm=>foldT m (λacc k=>R.add acc (R.mul (x k) (R.root (unitI s*((j*k%n:Nat):Int)) n))) R.zero
def directF(n:Nat)(s:Int)(x:Nat->T):Nat->T:=λj=>dotF R n s x j n
def twistF(rows cols:Nat)(s:Int)(x:Nat->T):Nat->T:=λy=>R.mul (x y) (R.root (unitI s*((y/cols:Nat):Int)*((y%cols:Nat):Int)) ((rows*cols:Nat):Int))
def timesF(a b:Nat->T):Nat->T:=λi=>R.mul (a i) (b i)
def overF(a:Nat->T)(n:Int):Nat->T:=λi=>R.over (a i) n
def sumT(n:Nat)(a:Nat->T):T:=foldT n (λacc k=>R.add acc (a k)) R.zero
def gathT(x:Nat->T)(off st:Nat):Nat->T:=λi=>x (off+i*st)
def scatT(g f:Nat->T)(off st m:Nat):Nat->T:=foldT m (λh k=>updT h (off+k*st) (f k)) g
abbrev Tr(T:Type):=Int->(Nat->T)->Nat->T
def mid0F(c r:Nat)(s:Int)(K:Tr T)(x:Nat->T):Nat->Nat->T:=λm=>foldT m (λh b=>scatT h (K s (gathT x b c)) b c r) (λ_=>R.zero)
def midF(n r:Nat)(s:Int)(K:Tr T)(x:Nat->T):Nat->T:=twistF R r (n/r) s (mid0F R (n/r) r s K x (n/r))
def outF(n r:Nat)(s:Int)(K0 K1:Tr T)(x:Nat->T):Nat->Nat->T:=λm=>foldT m (λh a=>scatT h (K1 s (gathT (midF R n r s K0 x) (a*(n/r)) 1)) a r (n/r)) (λ_=>R.zero)
def radixF(n r:Nat)(K0 K1:Tr T):Tr T:=λs x=>outF R n r s K0 K1 x r
def splitR(n:Nat)(s:Int)(e z y:Nat->T)(h:Nat->T)(k:Nat):Nat->T:=
 let q:=n/4
 let i:=R.root (s*((q:Nat):Int)) n
 let u:=R.mul (R.root (s*(k:Int)) n) (z k)
 let v:=R.mul (R.root (s*(-(k:Int))) n) (y k)
 let a:=R.add u v
 let d:=R.mul i (R.sub u v)
 updT (updT (updT (updT h k (R.add (e k) a)) (k+2*q) (R.sub (e k) a)) (k+q) (R.add (e (k+q)) d)) (k+3*q) (R.sub (e (k+q)) d)
def consT(a:T)(f:Nat->T):Nat->T:=λi=>if i=0 then a else f (i-1)
def splitF:Nat->Nat->Tr T
 |0,n=>directF R n
 |f+1,n=>λs x=>
   if n<4 then directF R n s x else
   foldT (n/4) (splitR R n s (splitF f (n/2) s (gathT x 0 2)) (splitF f (n/4) s (gathT x 1 4)) (splitF f (n/4) s (consT (x (n-1)) (gathT x 3 4)))) (λ_=>R.zero)
def convF(m:Nat)(K:Tr T)(a b:Nat->T):Nat->T:=overF R (K (-1) (timesF R (K 1 a) (K 1 b))) m
def raderA(pw:Nat->Nat)(x:Nat->T):Nat->T:=λk=>x (pw k)
def raderB(n:Nat)(s:Int)(pw:Nat->Nat):Nat->T:=λk=>R.root (s*((pw ((n-1-k)%(n-1)):Nat):Int)) n
def raderO(n:Nat)(pw:Nat->Nat)(x c:Nat->T)(m:Nat):Nat->T:=foldT m (λh k=>updT h (pw ((n-1-k)%(n-1))) (R.add (x 0) (c k))) (updT (λ_=>R.zero) 0 (sumT R n x))
def raderF(n:Nat)(pw:Nat->Nat)(K:Tr T):Tr T:=λs x=>raderO R n pw x (convF R (n-1) K (raderA pw x) (raderB R n s pw)) (n-1)
def sqr(n k:Nat):Nat:=k*k%(2*n)
def blueC(n:Nat)(s:Int):Nat->T:=λk=>R.root (s*((sqr n k:Nat):Int)) ((2*n:Nat):Int)
def blueD(n:Nat)(s:Int):Nat->T:=λk=>R.root (s*(-((sqr n k:Nat):Int))) ((2*n:Nat):Int)
def blueA(n:Nat)(s:Int)(x:Nat->T)(j:Nat):Nat->T:=λk=>if k<j then R.mul (x k) (blueC R n s k) else R.zero
def blueB(n m:Nat)(s:Int)(j:Nat):Nat->T:=foldT j (λh k=>updT (updT h k (blueD R n s k)) ((m-k)%m) (blueD R n s k)) (λ_=>R.zero)
def blueF(n m:Nat)(K:Tr T):Tr T:=λs x=>timesF R (convF R m K (blueA R n s x n) (blueB R n m s n)) (blueC R n s)
def nodeF(pw:Nat->Nat->Nat)(kind:Int)(n r:Nat)(ns:List Nat)(Ks:List (Tr T)):Tr T:=
 if kind=1 then radixF R n r (Ks.getD 0 λ_ x=>x) (Ks.getD 1 λ_ x=>x)
 else if kind=2 then splitF R n n
 else if kind=3 then raderF R n (pw n) (Ks.getD 0 λ_ x=>x)
 else if kind=4 then blueF R n (ns.getD 0 0) (Ks.getD 0 λ_ x=>x)
 else directF R n
end
inductive Fo
 |nil
 |cons (kind n r:Int) (kids rest:Fo)
def Fo.len:Fo->Nat
 |.nil=>0
 |.cons _ _ _ _ r=>r.len+1
def Fo.sizes:Fo->List Nat
 |.nil=>[]
 |.cons _ n _ _ r=>n.toNat::r.sizes
def Fo.runs{T:Type}(R:Rg T)(pw:Nat->Nat->Nat):Fo->List (Tr T)
 |.nil=>[]
 |.cons kind n r kids rest=>nodeF R pw kind n.toNat r.toNat kids.sizes (kids.runs R pw)::rest.runs R pw
section
variable {T : Type}
theorem foldT_succ(n:Nat)(f:T->Nat->T)(z:T):foldT (n+1) f z=f (foldT n f z) n:=rfl
theorem foldT_congr{n:Nat}{f g:T->Nat->T}{z:T}(h:∀a k,k<n->f a k=g a k):foldT n f z=foldT n g z:=by
 induction n with
 |zero=>rfl
 |succ n ih=>rw[foldT_succ,foldT_succ,ih λa k hk=>h a k (by omega),h _ n (by omega)]
theorem fold_upd_ne(m:Nat)(p:Nat->Nat)(v:Nat->T)(g:Nat->T)(y:Nat)(h:∀k,k<m->p k≠y):foldT m (λh k=>updT h (p k) (v k)) g y=g y:=by
 induction m with
 |zero=>rfl
 |succ m ih=>
   rw[foldT_succ]
   show(if y=p m then _ else _)=_
   rw[if_neg (λe=>h m (by omega) e.symm),ih λk hk=>h k (by omega)]
theorem fold_upd_at(m:Nat)(p:Nat->Nat)(v:Nat->T)(g:Nat->T)(j:Nat)(hj:j<m)(hi:∀k,k<m->p k=p j->k=j):foldT m (λh k=>updT h (p k) (v k)) g (p j)=v j:=by
 induction m with
 |zero=>omega
 |succ m ih=>
   rw[foldT_succ]
   show(if p j=p m then _ else _)=_
   by_cases e:p j=p m
   ·rw[if_pos e,hi m (by omega) e.symm]
   ·rw[if_neg e]
    by_cases e2:j=m
    ·exact absurd (by rw[e2]) e
    ·exact ih (by omega) λk hk=>hi k (by omega)
theorem scatT_at(g f:Nat->T)(off st m k:Nat)(hst:1<=st)(hk:k<m):scatT g f off st m (off+k*st)=f k:=
 fold_upd_at m (λk=>off+k*st) f g k hk λl _ e=>by
  have:l*st=k*st:=by omega
  exact Nat.eq_of_mul_eq_mul_right (by omega) this
theorem scatT_ne(g f:Nat->T)(off st m y:Nat)(h:∀k,k<m->off+k*st≠y):scatT g f off st m y=g y:=fold_upd_ne m (λk=>off+k*st) f g y h
theorem cols_at(F:Nat->Nat->T)(c r M b i:Nat)(g:Nat->T)(hb:b<M)(hM:M<=c)(hi:i<r):foldT M (λh b=>scatT h (F b) b c r) g (b+i*c)=F b i:=by
 induction M with
 |zero=>omega
 |succ M ih=>
   rw[foldT_succ]
   by_cases e:b=M
   ·subst e
    exact scatT_at _ _ _ _ _ _ (by omega) hi
   ·rw[scatT_ne _ _ _ _ _ _ λk hk h=>?_]
    ·exact ih (by omega) (by omega)
    ·have e1:(M+k*c)%c=M:=by rw[Nat.add_mul_mod_self_right,Nat.mod_eq_of_lt (by omega)]
     have e2:(b+i*c)%c=b:=by rw[Nat.add_mul_mod_self_right,Nat.mod_eq_of_lt (by omega)]
     rw[h,e2] at e1
     omega
end
section
variable {q : Nat} [NeZero q]
structure Rts(N:Nat)(rt:Int->Nat->Fin q):Prop where
 zero:∀n,1<=n->n∣N->rt 0 n=1
 add:∀n a b,1<=n->n∣N->rt (a+b) n=rt a n*rt b n
 full:∀n (m:Int),1<=n->n∣N->rt (n*m) n=1
 scale:∀(m n:Nat) (k:Int),1<=m->1<=n->m*n∣N->rt (m*k) (m*n)=rt k n
 orth:∀n (j:Int),1<=n->n∣N->¬(n:Int)∣j->sumF n (λk=>rt (j*k) n)=0
def dft(rt:Int->Nat->Fin q)(n:Nat)(s:Int)(x:Nat->Fin q)(j:Nat):Fin q:=sumF n λk=>x k*rt (s*((j:Int)*k)) n
structure Hom(R:Rg Int)(N:Nat)(rt:Int->Nat->Fin q)(h:Int->Fin q):Prop where
 rts:Rts N rt
 zero:h R.zero=0
 one:h 1=1
 add:∀a b,h (R.add a b)=h a+h b
 sub:∀a b,h (R.sub a b)=h a-h b
 mul:∀a b,h (R.mul a b)=h a*h b
 over:∀a (n:Nat),1<=n->n∣N->h (R.over a n)*h n=h a
 many:∀n:Nat,h n=sumF n λ_=>1
 root:∀k (n:Nat),1<=n->n∣N->h (R.root k n)=rt k n
variable {N : Nat} {rt : Int -> Nat -> Fin q}
theorem Rts.mod(H:Rts N rt){n:Nat}(n1:1<=n)(hn:n∣N)(a m:Int):rt (a+n*m) n=rt a n:=by
 rw[H.add n _ _ n1 hn,H.full n m n1 hn];grind
theorem unit_one{s:Int}(hs:s=1\/s=-1):unitI s=s:=by
 unfold unitI
 rcases hs with rfl|rfl<;>decide
theorem Rts.red(H:Rts N rt){n:Nat}(n1:1<=n)(hn:n∣N)(s:Int)(a b:Nat)(h:a%n=b%n):rt (s*(a:Int)) n=rt (s*(b:Int)) n:=by
 have ha:=Nat.mod_add_div a n
 have hb:=Nat.mod_add_div b n
 have e1:s*(a:Int)=s*((a%n:Nat):Int)+n*(s*((a/n:Nat):Int)):=by
  have:(a:Int)=((a%n:Nat):Int)+n*((a/n:Nat):Int):=by
   rw[<-Int.natCast_mul,<-Int.natCast_add,ha]
  rw[this];grind
 have e2:s*(b:Int)=s*((b%n:Nat):Int)+n*(s*((b/n:Nat):Int)):=by
  have:(b:Int)=((b%n:Nat):Int)+n*((b/n:Nat):Int):=by
   rw[<-Int.natCast_mul,<-Int.natCast_add,hb]
  rw[this];grind
 rw[e1,e2,H.mod n1 hn,H.mod n1 hn,h]
variable {R : Rg Int} {h : Int -> Fin q}
theorem Hom.fold(H:Hom R N rt h)(n:Nat)(f:Nat->Int):h (foldT n (λacc k=>R.add acc (f k)) R.zero)=sumF n λk=>h (f k):=by
 induction n with
 |zero=>exact H.zero
 |succ n ih=>rw[foldT_succ,H.add,ih,sumF_succ]
theorem direct_dft(H:Hom R N rt h){n:Nat}(n1:1<=n)(hn:n∣N){s:Int}(hs:s=1\/s=-1)(x:Nat->Int)(j:Nat):h (directF R n s x j)=dft rt n s (λk=>h (x k)) j:=by
 unfold directF dotF dft
 rw[H.fold]
 refine sumF_congr λk hk=>?_
 rw[H.mul,H.root _ _ n1 hn,unit_one hs,H.rts.red n1 hn s (j*k%n) (j*k) (Nat.mod_mod _ _),Int.natCast_mul]
theorem radix_dft(H:Hom R N rt h){r c:Nat}(r1:1<=r)(c1:1<=c)(hn:r*c∣N){s:Int}(hs:s=1\/s=-1)(K0 K1:Tr Int)(h0:∀x j,j<r->h (K0 s x j)=dft rt r s (λk=>h (x k)) j)(h1:∀x j,j<c->h (K1 s x j)=dft rt c s (λk=>h (x k)) j)(x:Nat->Int)(y:Nat)(hy:y<r*c):h (radixF R (r*c) r K0 K1 s x y)=dft rt (r*c) s (λk=>h (x k)) y:=by
 have ec:r*c/r=c:=Nat.mul_div_cancel_left _ r1
 have hr:r∣N:=Nat.dvd_trans (Nat.dvd_mul_right _ _) hn
 have hc:c∣N:=Nat.dvd_trans (Nat.dvd_mul_left _ _) hn
 have n1:1<=r*c:=Nat.mul_pos r1 c1
 obtain⟨a,ha⟩:∃a,y%r=a:=⟨_,rfl⟩
 obtain⟨d,hd⟩:∃d,y/r=d:=⟨_,rfl⟩
 have ha':a<r:=by rw[<-ha];exact Nat.mod_lt _ r1
 have hd':d<c:=by rw[<-hd];exact Nat.div_lt_of_lt_mul hy
 have ey:y=a+d*r:=by
  have:=Nat.mod_add_div y r
  rw[ha,hd,Nat.mul_comm] at this
  omega
 subst ey
 unfold radixF outF
 rw[ec,cols_at (λa=>K1 s (gathT (midF R (r*c) r s K0 x) (a*c) 1)) r c r a d _ ha' (Nat.le_refl _) hd',h1 _ _ hd']
 unfold dft
 rw[sumF_grid r c]
 refine sumF_congr λb hb=>?_
 have em:h (gathT (midF R (r*c) r s K0 x) (a*c) 1 b)=(sumF r λi=>h (x (b+i*c))*rt (s*((a:Int)*i)) r)*rt (s*((a:Int)*b)) (r*c):=by
  have e1:(a*c+b*1)/c=a:=by rw[Nat.mul_one,Nat.add_comm,Nat.add_mul_div_right _ _ c1,Nat.div_eq_of_lt hb,Nat.zero_add]
  have e2:(a*c+b*1)%c=b:=by rw[Nat.mul_one,Nat.add_comm,Nat.add_mul_mod_self_right,Nat.mod_eq_of_lt hb]
  have e3:a*c+b*1=b+a*c:=by omega
  show h (midF R (r*c) r s K0 x (a*c+b*1))=_
  unfold midF twistF
  rw[ec,e1,e2,e3,H.mul]
  have e4:mid0F R c r s K0 x c (b+a*c)=K0 s (gathT x b c) a:=cols_at (λb=>K0 s (gathT x b c)) c r c b a _ hb (Nat.le_refl _) ha'
  rw[e4,h0 _ _ ha',H.root _ _ n1 hn,unit_one hs,Int.mul_assoc]
  rfl
 show h (gathT (midF R (r*c) r s K0 x) (a*c) 1 b)*rt (s*((d:Int)*b)) c=sumF r λi=>h (x (b+i*c))*rt (s*(((a+d*r:Nat):Int)*((b+i*c:Nat):Int))) (r*c)
 rw[em,<-sumF_right,<-sumF_right]
 refine sumF_congr λi hi=>?_
 have e5:s*(((a+d*r:Nat):Int)*((b+i*c:Nat):Int))=s*((a:Int)*b)+((c:Int)*(s*((a:Int)*i))+((r:Int)*(s*((d:Int)*b))+((r*c:Nat):Int)*(s*((d:Int)*i)))):=by
  rw[Int.natCast_add,Int.natCast_add,Int.natCast_mul,Int.natCast_mul,Int.natCast_mul]
  grind
 have e6:rt ((c:Int)*(s*((a:Int)*i))) (r*c)=rt (s*((a:Int)*i)) r:=by
  rw[Nat.mul_comm r c];exact H.rts.scale c r _ c1 r1 (by rw[Nat.mul_comm];exact hn)
 have e7:=H.rts.scale r c (s*((d:Int)*b)) r1 c1 hn
 have e8:=H.rts.full (r*c) (s*((d:Int)*i)) n1 hn
 rw[e5,H.rts.add _ _ _ n1 hn,H.rts.add _ _ _ n1 hn,H.rts.add _ _ _ n1 hn,e6,e7,e8]
 grind
end
def pmod(a e m:Nat):Nat:=a^e%m
theorem pmod_lt(a e m:Nat)(hm:1<=m):pmod a e m<m:=Nat.mod_lt _ hm
structure PowS(T m e x out:Nat):Prop where
 eq:out*x^e%m=T
theorem PowS.even{T m e x out:Nat}(h:PowS T m (2*e) x out):PowS T m e (x*x%m) out:=⟨by
 rw[<-h.eq,Nat.pow_mul,Nat.pow_two,Nat.mul_mod,<-Nat.pow_mod,<-Nat.mul_mod]⟩
theorem PowS.odd{T m e x out:Nat}(h:PowS T m (2*e+1) x out):PowS T m e (x*x%m) (out*x%m):=⟨by
 rw[<-h.eq,Nat.pow_succ,Nat.pow_mul,Nat.pow_two,Nat.mul_mod,Nat.mod_mod,<-Nat.pow_mod,<-Nat.mul_mod]
 congr 1
 rw[Nat.mul_assoc,Nat.mul_comm x]⟩
theorem PowS.done{T m x out:Nat}(h:PowS T m 0 x out)(ho:out<m):out=T:=by
 rw[<-h.eq,Nat.pow_zero,Nat.mul_one,Nat.mod_eq_of_lt ho]
def pmL:Nat->Nat->Nat->Nat->Nat->Nat
 |0,_,_,out,_=>out
 |f+1,e,x,out,m=>bif Nat.beq e 0 then out else pmL f (e/2) (x*x%m) (bif Nat.beq (e%2) 1 then out*x%m else out) m
def pmB(a e m:Nat):Nat:=pmL 64 e (a%m) (1%m) m
theorem bif_eq{T:Type}(a b:Nat)(x y:T):(bif Nat.beq a b then x else y)=if a=b then x else y:=by
 by_cases h:a=b
 ·rw[if_pos h,h,Nat.beq_refl];rfl
 ·rw[if_neg h,show Nat.beq a b=false from Bool.eq_false_iff.2 (λe=>h (Nat.eq_of_beq_eq_true e))];rfl
theorem bif_le{T:Type}(a b:Nat)(x y:T):(bif Nat.ble a b then x else y)=if a<=b then x else y:=by
 by_cases h:a<=b
 ·rw[if_pos h,Nat.ble_eq_true_of_le h];rfl
 ·rw[if_neg h,show Nat.ble a b=false from Bool.eq_false_iff.2 (λe=>h (Nat.le_of_ble_eq_true e))];rfl
theorem pmL_eq{T m:Nat}(m1:1<=m)(f:Nat):∀e x out,e<2^f->out<m->PowS T m e x out->pmL f e x out m=T:=by
 induction f with
 |zero=>
   intro e x out he ho h
   obtain rfl:e=0:=by omega
   exact h.done ho
 |succ f ih=>
   intro e x out he ho h
   show(bif Nat.beq e 0 then out else pmL f (e/2) (x*x%m) (bif Nat.beq (e%2) 1 then out*x%m else out) m)=_
   rw[bif_eq,bif_eq]
   by_cases e0:e=0
   ·rw[if_pos e0];subst e0;exact h.done ho
   ·rw[if_neg e0]
    rcases Nat.mod_two_eq_zero_or_one e with h2|h2
    ·rw[if_neg (by omega)]
     exact ih _ _ _ (by rw[Nat.pow_succ] at he;omega) ho (PowS.even (by rw[show 2*(e/2)=e from by omega];exact h))
    ·rw[if_pos h2]
     exact ih _ _ _ (by rw[Nat.pow_succ] at he;omega) (Nat.mod_lt _ m1) (PowS.odd (by rw[show 2*(e/2)+1=e from by omega];exact h))
theorem pmB_eq(a e m:Nat)(m1:1<=m)(he:e<2^64):pmB a e m=pmod a e m:=by
 refine pmL_eq m1 64 _ _ _ he (Nat.mod_lt _ m1) ⟨?_⟩
 unfold pmod
 rw[Nat.mod_mul_mod,Nat.one_mul,<-Nat.pow_mod]
def oddL:Nat->Nat->Nat
 |0,d=>d
 |f+1,d=>bif Nat.beq (d%2) 0 then oddL f (d/2) else d
def strL:Nat->Nat->Nat->Nat->Bool
 |0,_,_,_=>false
 |f+1,d,x,n=>bif Nat.ble (n-1) d then false else(bif Nat.beq x (n-1) then true else strL f (d*2) (x*x%n) n)
def strongB(n b:Nat):Bool:=
 bif Nat.beq (pmB b (oddL 64 (n-1)) n) 1 then true else strL 64 (oddL 64 (n-1)) (pmB b (oddL 64 (n-1)) n) n
def basesL:List Nat:=[2,3,5,7,11,13,17,19,23,29,31,37]
def divL(n:Nat):List Nat->Option Bool
 |[]=>none
 |b::l=>bif Nat.beq (n%b) 0 then some (Nat.beq n b) else divL n l
def allS(n:Nat):List Nat->Bool
 |[]=>true
 |b::l=>bif strongB n b then allS n l else false
def isB(n:Nat):Bool:=bif Nat.ble n 1 then false else match divL n basesL with|some r=>r|none=>allS n basesL
def priL:Nat->Nat->Nat->Bool
 |0,_,_=>true
 |f+1,d,n=>bif Nat.ble d (n/d) then(bif Nat.beq (n%d) 0 then false else priL f (d+1) n) else true
def primeB(n:Nat):Bool:=bif Nat.ble n 1 then false else priL n 2 n
def stripL:Nat->Nat->Nat->Nat
 |0,n,_=>n
 |f+1,n,p=>bif Nat.beq (n%p) 0 then stripL f (n/p) p else n
def facL:Nat->Nat->Nat->List Nat
 |0,_,_=>[]
 |f+1,n,p=>bif Nat.ble n 1 then [] else
   bif Nat.ble (p*p) n then(bif Nat.beq (n%p) 0 then p::facL f (stripL 64 n p) (p+1) else facL f n (p+1)) else [n]
def ordD:Nat->Nat->Nat->Nat->Nat->Nat
 |0,_,_,e,_=>e
 |f+1,a,n,e,p=>bif Nat.beq (e%p) 0 then(bif Nat.beq (pmB a (e/p) n) (pmB 1 1 n) then ordD f a n (e/p) p else e) else e
def ordL(a n:Nat):List Nat->Nat->Nat
 |[],e=>e
 |p::l,e=>ordL a n l (ordD 64 a n e p)
def ordB(a n e:Nat):Nat:=ordL a n (facL e e 2) e
def rooL:Nat->Nat->Nat->Nat
 |0,g,_=>g
 |f+1,g,p=>bif Nat.beq (ordB g p (p-1)) (p-1) then g else rooL f (g+1) p
def rootB(p:Nat):Nat:=rooL 200 1 p
def allR(P:Nat->Bool):Nat->Nat->Bool
 |0,lo=>P lo
 |d+1,lo=>bif allR P d lo then allR P d (lo+2^d) else false
theorem allR_at{P:Nat->Bool}(d:Nat):∀lo n,allR P d lo=true->lo<=n->n<lo+2^d->P n=true:=by
 induction d with
 |zero=>
   intro lo n h h1 h2
   obtain rfl:n=lo:=by omega
   exact h
 |succ d ih=>
   intro lo n h h1 h2
   have h3:(bif allR P d lo then allR P d (lo+2^d) else false)=true:=h
   by_cases e:allR P d lo=true
   ·rw[e] at h3
    by_cases h4:n<lo+2^d
    ·exact ih lo n e h1 h4
    ·exact ih (lo+2^d) n h3 (by omega) (by rw[Nat.pow_succ] at h2;omega)
   ·rw[Bool.eq_false_iff.2 e] at h3
    cases h3
def sameB(n:Nat):Bool:=bif primeB n then isB n else !isB n
def rootOk(n:Nat):Bool:=bif primeB n then(bif Nat.ble n 2 then true else(λg=>bif Nat.beq (ordB g n (n-1)) (n-1) then(bif Nat.beq (pmB g (n-1) n) 1 then Nat.ble g 199 else false) else false) (rootB n)) else true
def Prm(n:Nat):Prop:=2<=n/\∀d,d∣n->d=1\/d=n
theorem priL_no(f:Nat):∀d n,1<=d->n+2<=d+f->priL f d n=true->∀e,d<=e->2<=e->e*e<=n->¬e∣n:=by
 induction f with
 |zero=>
   intro d n _ hf _ e he h2 hee
   have:e*1<=e*e:=Nat.mul_le_mul_left e (by omega)
   omega
 |succ f ih=>
   intro d n h1 hf h e he h2 hee hd
   rw[priL,bif_le] at h
   by_cases hdd:d<=n/d
   ·rw[if_pos hdd,bif_eq] at h
    by_cases hm:n%d=0
    ·rw[if_pos hm] at h;cases h
    ·rw[if_neg hm] at h
     by_cases e1:e=d
     ·subst e1
      exact hm (Nat.mod_eq_zero_of_dvd hd)
     ·exact ih (d+1) n (by omega) (by omega) h e (by omega) h2 hee hd
   ·have h3:n<d*d:=by
      have:=(Nat.div_lt_iff_lt_mul (by omega:0<d)).1 (by omega:n/d<d)
      exact this
    have h4:d*d<=e*e:=Nat.mul_le_mul he he
    omega
theorem prm_of{n:Nat}(h:primeB n=true):Prm n:=by
 unfold primeB at h
 rw[bif_le] at h
 by_cases h1:n<=1
 ·rw[if_pos h1] at h;cases h
 rw[if_neg h1] at h
 refine⟨by omega,λd hd=>?_⟩
 have hno:=priL_no n 2 n (by omega) (by omega) h
 apply Classical.byContradiction
 intro hc
 have hd1:d≠1:=λe=>hc (Or.inl e)
 have hd2:d≠n:=λe=>hc (Or.inr e)
 obtain⟨c,hcd⟩:=hd
 have hd0:d≠0:=by rintro rfl;omega
 have hc0:c≠0:=by rintro rfl;omega
 have hc1:c≠1:=by rintro rfl;omega
 rcases Nat.le_total d c with hle|hle
 ·exact hno d (by omega) (by omega) (by rw[hcd];exact Nat.mul_le_mul_left d hle) ⟨c,hcd⟩
 ·exact hno c (by omega) (by omega) (by rw[hcd];exact Nat.mul_le_mul_right c hle) ⟨d,by rw[hcd,Nat.mul_comm]⟩
theorem Prm.co{p a:Nat}(hp:Prm p)(h:¬p∣a):Nat.gcd p a=1:=by
 rcases hp.2 _ (Nat.gcd_dvd_left p a) with e|e
 ·exact e
 ·exact absurd (e▸Nat.gcd_dvd_right p a) h
theorem Prm.mul{p a b:Nat}(hp:Prm p)(h:p∣a*b):p∣a\/p∣b:=by
 by_cases ha:p∣a
 ·exact Or.inl ha
 ·exact Or.inr (Nat.Coprime.dvd_of_dvd_mul_left (hp.co ha) h)
theorem strip_dvd(f:Nat):∀n p m,1<=n->2<=p->m∣n->Nat.gcd m p=1->m∣stripL f n p:=by
 induction f with
 |zero=>intro n p m _ _ h _;exact h
 |succ f ih=>
   intro n p m h1 h2 h hg
   rw[stripL,bif_eq]
   by_cases hm:n%p=0
   ·rw[if_pos hm]
    have hpn:n=p*(n/p):=by have:=Nat.div_add_mod n p;omega
    refine ih (n/p) p m ?_ h2 ?_ hg
    ·apply Nat.one_le_iff_ne_zero.2
     intro e
     rw[e] at hpn
     omega
    ·rw[hpn] at h
     exact Nat.Coprime.dvd_of_dvd_mul_left hg h
   ·rw[if_neg hm];exact h
theorem strip_of(f:Nat):∀n p,stripL f n p∣n:=by
 induction f with
 |zero=>intro n p;exact Nat.dvd_refl n
 |succ f ih=>
   intro n p
   rw[stripL,bif_eq]
   by_cases hm:n%p=0
   ·rw[if_pos hm]
    exact Nat.dvd_trans (ih (n/p) p) (Nat.div_dvd_of_dvd (Nat.dvd_of_mod_eq_zero hm))
   ·rw[if_neg hm];exact Nat.dvd_refl n
theorem strip_pos(f:Nat)(n p:Nat)(h:1<=n):1<=stripL f n p:=Nat.pos_of_dvd_of_pos (strip_of f n p) h
theorem strip_free{p:Nat}(h2:2<=p)(f:Nat):∀n,1<=n->n<2^f->¬p∣stripL f n p:=by
 induction f with
 |zero=>intro n h1 h;simp at h;omega
 |succ f ih=>
   intro n h1 h hd
   rw[stripL,bif_eq] at hd
   by_cases hm:n%p=0
   ·rw[if_pos hm] at hd
    have hpn:n=p*(n/p):=by have:=Nat.div_add_mod n p;omega
    have h0:n/p≠0:=λe=>by rw[e] at hpn;omega
    have h3:2*(n/p)<=p*(n/p):=Nat.mul_le_mul_right _ h2
    exact ih (n/p) (by omega) (by rw[Nat.pow_succ] at h;omega) hd
   ·rw[if_neg hm] at hd
    exact hm (Nat.mod_eq_zero_of_dvd hd)
theorem facL_all(f:Nat):∀n p,1<=n->n<2^64->2<=p->n+2<=p+f->(∀d,d∣n->d=1\/p<=d)->∀m,m∣n->2<=m->∃r∈facL f n p,r∣m:=by
 induction f with
 |zero=>
   intro n p h1 hn h2 hf hd m hm hm2
   have:=Nat.le_of_dvd (by omega) hm
   rcases hd m hm with e|e<;>omega
 |succ f ih=>
   intro n p h1 hn h2 hf hd m hm hm2
   have hmn:=Nat.le_of_dvd (by omega) hm
   rw[facL,bif_le,if_neg (by omega),bif_le]
   by_cases hpp:p*p<=n
   ·rw[if_pos hpp,bif_eq]
    by_cases hnp:n%p=0
    ·rw[if_pos hnp]
     by_cases hpm:p∣m
     ·exact⟨p,List.mem_cons_self ..,hpm⟩
     ·have hg:Nat.gcd m p=1:=by
        have h3:=Nat.gcd_dvd_left m p
        have h4:=Nat.gcd_dvd_right m p
        rcases hd _ (Nat.dvd_trans h3 hm) with e|e
        ·exact e
        ·have h5:=Nat.le_of_dvd (by omega) h4
         have h6:Nat.gcd m p=p:=by omega
         exact absurd (h6▸h3) hpm
      have hle:=Nat.le_of_dvd h1 (strip_of 64 n p)
      obtain⟨r,hr,hrm⟩:=ih (stripL 64 n p) (p+1) (strip_pos 64 n p h1) (by omega) (by omega) (by omega) (λd hdd=>by
        rcases hd d (Nat.dvd_trans hdd (strip_of 64 n p)) with e|e
        ·exact Or.inl e
        ·by_cases e2:d=p
         ·subst e2
          exact absurd hdd (strip_free h2 64 n h1 hn)
         ·exact Or.inr (by omega)) m (strip_dvd 64 n p m h1 h2 hm hg) hm2
      exact⟨r,List.mem_cons_of_mem _ hr,hrm⟩
    ·rw[if_neg hnp]
     refine ih n (p+1) h1 hn (by omega) (by omega) (λd hdd=>?_) m hm hm2
     rcases hd d hdd with e|e
     ·exact Or.inl e
     ·by_cases e2:d=p
      ·subst e2
       exact absurd (Nat.mod_eq_zero_of_dvd hdd) hnp
      ·exact Or.inr (by omega)
   ·rw[if_neg hpp]
    refine⟨n,List.mem_cons_self ..,?_⟩
    obtain⟨c,hc⟩:=hm
    rcases hd c ⟨m,by rw[hc,Nat.mul_comm]⟩ with e|e
    ·rw[hc,e,Nat.mul_one];exact Nat.dvd_refl m
    ·exfalso
     rcases hd m ⟨c,hc⟩ with e2|e2
     ·omega
     ·have:p*p<=m*c:=Nat.mul_le_mul e2 e
      omega
theorem fac_all{o m:Nat}(h1:1<=o)(ho:o<2^64)(hm:m∣o)(hm2:2<=m):∃r∈facL o o 2,r∣m:=
 facL_all o o 2 h1 ho (by omega) (by omega) (λd hd=>by
  have:d≠0:=by rintro rfl;rw[Nat.zero_dvd] at hd;omega
  omega) m hm hm2
theorem one_pow_mod{v a q:Nat}(q2:2<=q)(h:v^a%q=1)(c:Nat):v^(a*c)%q=1:=by
 rw[Nat.pow_mul,Nat.pow_mod,h,Nat.one_pow,Nat.mod_eq_of_lt q2]
theorem one_gcd{v q:Nat}(q2:2<=q)(a b:Nat):v^a%q=1->v^b%q=1->v^Nat.gcd a b%q=1:=by
 induction a,b using Nat.gcd.induction with
 |H0 n=>intro _ h;rw[Nat.gcd_zero_left];exact h
 |H1 m n hm ih=>
   intro h1 h2
   rw[Nat.gcd_rec]
   refine ih ?_ h1
   have h3:=Nat.div_add_mod n m
   rw[<-h3,Nat.pow_add,Nat.mul_mod,one_pow_mod q2 h1,Nat.one_mul,Nat.mod_mod] at h2
   exact h2
structure Ord(v o q:Nat):Prop where
 q2:2<=q
 o1:1<=o
 one:v^o%q=1
 least:∀e,v^e%q=1->o∣e
theorem ord_of{v o q:Nat}(q2:2<=q)(o1:1<=o)(ho:o<2^64)(h1:v^o%q=1)(h:∀p∈facL o o 2,v^(o/p)%q≠1):Ord v o q:=by
 refine⟨q2,o1,h1,λe he=>?_⟩
 have hd:=one_gcd q2 e o he h1
 have hed:=Nat.gcd_dvd_left e o
 obtain⟨c,hc⟩:=Nat.gcd_dvd_right e o
 generalize Nat.gcd e o=d at hd hed hc
 have hc0:c≠0:=by rintro rfl;omega
 by_cases c1:c=1
 ·rw[c1,Nat.mul_one] at hc
  rw[hc]
  exact hed
 ·exfalso
  obtain⟨r,hr,t,ht⟩:=fac_all (m:=c) o1 ho ⟨d,by rw[Nat.mul_comm];exact hc⟩ (by omega)
  have hr0:0<r:=by
   apply Nat.pos_of_ne_zero
   rintro rfl
   omega
  refine h r hr ?_
  have:o/r=d*t:=by
   have h3:o=r*(d*t):=by rw[hc,ht,<-Nat.mul_assoc,Nat.mul_comm d r,Nat.mul_assoc]
   rw[h3]
   exact Nat.mul_div_cancel_left _ hr0
  rw[this]
  exact one_pow_mod q2 hd t
section
variable {q : Nat} [NeZero q]
theorem fin_mul_zero(hq:Prm q){a b:Fin q}(h:a*b=0):a=0\/b=0:=by
 have h1:(a*b).val=0:=by rw[h];rfl
 rw[Fin.val_mul] at h1
 rcases hq.mul (Nat.dvd_of_mod_eq_zero h1) with e|e
 ·left
  apply Fin.ext
  exact Nat.eq_zero_of_dvd_of_lt e a.isLt
 ·right
  apply Fin.ext
  exact Nat.eq_zero_of_dvd_of_lt e b.isLt
def pw(q:Nat)[NeZero q](v e:Nat):Fin q:=Fin.ofNat q (v^e)
theorem ofNat_mul(a b:Nat):Fin.ofNat q (a*b)=Fin.ofNat q a*Fin.ofNat q b:=by
 apply Fin.ext
 rw[Fin.val_mul]
 simp[Nat.mul_mod]
theorem ofNat_congr{a b:Nat}(h:a%q=b%q):Fin.ofNat q a=Fin.ofNat q b:=by
 apply Fin.ext
 simpa using h
theorem pw_add(v a b:Nat):pw q v (a+b)=pw q v a*pw q v b:=by
 unfold pw
 rw[Nat.pow_add,ofNat_mul]
theorem pw_one{v a:Nat}(q2:2<=q)(h:v^a%q=1):pw q v a=1:=by
 apply Fin.ext
 show v^a%q=1%q
 rw[h,Nat.mod_eq_of_lt q2]
theorem one_pw{v a:Nat}(q2:2<=q)(h:pw q v a=1):v^a%q=1:=by
 have:(pw q v a).val=(1:Fin q).val:=by rw[h]
 have h2:v^a%q=1%q:=this
 rw[h2,Nat.mod_eq_of_lt q2]
theorem pw_zero(v:Nat):pw q v 0=1:=by
 apply Fin.ext
 show v^0%q=1%q
 rw[Nat.pow_zero]
variable {v o : Nat}
theorem Ord.mod(O:Ord v o q)(a:Nat):pw q v (a%o)=pw q v a:=by
 have h:=Nat.div_add_mod a o
 have:pw q v a=pw q v (o*(a/o)+a%o):=by rw[h]
 rw[this,pw_add,pw_one O.q2 (one_pow_mod O.q2 O.one _)]
 grind
theorem Ord.congr(O:Ord v o q){a b:Nat}(h:a%o=b%o):pw q v a=pw q v b:=by rw[<-O.mod a,h,O.mod b]
def rtF(q:Nat)[NeZero q](v o:Nat)(k:Int)(n:Nat):Fin q:=pw q v (o/n*(k%(n:Int)).toNat)
theorem geo(t n:Nat):(pw q v t-1)*sumF n (λk=>pw q v (t*k))=pw q v (t*n)-1:=by
 induction n with
 |zero=>rw[sumF_nil,Nat.mul_zero,pw_zero];grind
 |succ n ih=>
   rw[sumF_succ,Nat.mul_succ,pw_add]
   grind
theorem emod_nat(k:Int)(n:Nat)(h:1<=n):∃m:Nat,k%(n:Int)=m/\m<n:=by
 have h1:=Int.emod_nonneg k (by omega:(n:Int)≠0)
 have h2:=Int.emod_lt_of_pos k (by omega:(0:Int)<n)
 exact⟨(k%(n:Int)).toNat,by omega,by omega⟩
theorem Ord.exp(O:Ord v o q){n:Nat}(n1:1<=n)(hn:n∣o){a b:Nat}(h:a%n=b%n):pw q v (o/n*a)=pw q v (o/n*b):=by
 obtain⟨c,rfl⟩:=hn
 rw[Nat.mul_div_cancel_left c n1]
 apply O.congr
 rw[Nat.mul_comm n c,Nat.mul_mod_mul_left,Nat.mul_mod_mul_left,h]
theorem Ord.rts(O:Ord v o q)(hq:Prm q):Rts o (rtF q v o) where
 zero n n1 hn:=by
  unfold rtF
  simp[pw_zero]
 add n a b n1 hn:=by
  obtain⟨x,hx,hx2⟩:=emod_nat a n n1
  obtain⟨y,hy,hy2⟩:=emod_nat b n n1
  obtain⟨z,hz,hz2⟩:=emod_nat (a+b) n n1
  unfold rtF
  rw[hx,hy,hz,Int.toNat_natCast,Int.toNat_natCast,Int.toNat_natCast,<-pw_add,<-Nat.mul_add]
  apply O.exp n1 hn
  have h1:((z%n:Nat):Int)=(((x+y)%n:Nat):Int):=by
   rw[Int.natCast_emod,Int.natCast_emod,<-hz,Int.natCast_add,<-hx,<-hy]
   simp
  omega
 full n m n1 hn:=by
  unfold rtF
  rw[Int.mul_emod_right]
  simp[pw_zero]
 scale m n k m1 n1 hmn:=by
  obtain⟨c,hc⟩:=hmn
  obtain⟨x,hx,hx2⟩:=emod_nat k n n1
  unfold rtF
  rw[Int.natCast_mul,Int.mul_emod_mul_of_pos _ _ (by omega),hx]
  have h1:o/(m*n)=c:=by rw[hc];exact Nat.mul_div_cancel_left c (Nat.mul_pos m1 n1)
  have h2:o/n=m*c:=by
   rw[hc,show m*n*c=n*(m*c) from by rw[Nat.mul_comm m n,Nat.mul_assoc]]
   exact Nat.mul_div_cancel_left _ n1
  rw[h1,h2,Int.toNat_natCast,show((m:Int)*(x:Int)).toNat=m*x from by rw[<-Int.natCast_mul,Int.toNat_natCast]]
  congr 1
  rw[<-Nat.mul_assoc,Nat.mul_comm c m]
 orth n j n1 hn hj:=by
  obtain⟨x,hx,hx2⟩:=emod_nat j n n1
  have hx0:x≠0:=λe=>hj (Int.dvd_of_emod_eq_zero (by rw[hx,e];rfl))
  have h1:∀k,rtF q v o (j*(k:Nat)) n=pw q v (o/n*x*k):=λk=>by
   obtain⟨z,hz,hz2⟩:=emod_nat (j*(k:Nat)) n n1
   unfold rtF
   rw[hz,Int.toNat_natCast,Nat.mul_assoc]
   apply O.exp n1 hn
   have h2:((z%n:Nat):Int)=((x*k%n:Nat):Int):=by
    rw[Int.natCast_emod,Int.natCast_emod,<-hz,Int.natCast_mul,<-hx]
    simp[Int.mul_emod]
   omega
  rw[sumF_congr (g:=λk=>pw q v (o/n*x*k)) (λk _=>h1 k)]
  have hg:=geo (q:=q) (v:=v) (o/n*x) n
  obtain⟨c,hc⟩:=hn
  have h3:o/n=c:=by rw[hc];exact Nat.mul_div_cancel_left c n1
  have h4:pw q v (o/n*x*n)=1:=by
   rw[h3,show c*x*n=o*x from by rw[hc];grind]
   exact pw_one O.q2 (one_pow_mod O.q2 O.one x)
  rw[h4] at hg
  have h5:pw q v (o/n*x)≠1:=λe=>by
   have h6:=O.least _ (one_pw O.q2 e)
   have c0:0<c:=by
    apply Nat.pos_of_ne_zero
    rintro rfl
    have:=O.o1
    omega
   rw[h3] at h6
   have h7:=Nat.le_of_dvd (Nat.mul_pos c0 (by omega)) h6
   have h8:c*x<c*n:=Nat.mul_lt_mul_of_pos_left hx2 c0
   rw[hc,Nat.mul_comm n c] at h7
   omega
  rcases fin_mul_zero hq (a:=pw q v (o/n*x)-1) (by rw[hg];grind) with e|e
  ·exact absurd (by grind) h5
  ·exact e
def prodF:Nat->(Nat->Fin q)->Fin q
 |0,_=>1
 |n+1,f=>prodF n f*f n
theorem prodF_congr{n:Nat}{f g:Nat->Fin q}(h:∀k,k<n->f k=g k):prodF n f=prodF n g:=by
 induction n with
 |zero=>rfl
 |succ n ih=>rw[prodF,prodF,ih (λk hk=>h k (by omega)),h n (by omega)]
theorem prodF_mul(n:Nat)(f g:Nat->Fin q):prodF n (λk=>f k*g k)=prodF n f*prodF n g:=by
 induction n with
 |zero=>unfold prodF;grind
 |succ n ih=>rw[prodF,prodF,prodF,ih];grind
theorem prodF_ones(n:Nat):prodF n (λ_=>(1:Fin q))=1:=by
 induction n with
 |zero=>rfl
 |succ n ih=>rw[prodF,ih];grind
theorem prodF_one(n j:Nat)(f:Nat->Fin q)(hj:j<n):prodF n (λk=>if k=j then f k else 1)=f j:=by
 induction n with
 |zero=>omega
 |succ n ih=>
   rw[prodF]
   by_cases e:n=j
   ·subst e
    rw[if_pos rfl,prodF_congr (g:=λ_=>1) λk hk=>by rw[if_neg (by omega)],prodF_ones]
    grind
   ·rw[ih (by omega),if_neg e];grind
theorem prodF_perm(n:Nat)(s:Nat->Nat)(f:Nat->Fin q)(hm:∀k,k<n->s k<n)(hi:∀k l,k<n->l<n->s k=s l->k=l):prodF n (λk=>f (s k))=prodF n f:=by
 induction n generalizing s f with
 |zero=>rfl
 |succ n ih=>
   have hex:∃j,j<n+1/\s j=n:=by
    apply Classical.byContradiction
    intro hno
    have hlt:∀k,k<n+1->s k<n:=λk hk=>by
     have:=hm k hk
     have:s k≠n:=λe=>hno ⟨k,hk,e⟩
     omega
    exact sumF_perm.pigeon n s hlt hi
   obtain⟨j,hj,hjn⟩:=hex
   have ht:=ih (λk=>if k=j then s n else s k) f
    (λk hk=>by
     show(if k=j then s n else s k)<n
     by_cases e:k=j
     ·rw[if_pos e]
      have:=hm n (by omega)
      have:s n≠n:=λh=>by have:=hi n j (by omega) hj (by omega);omega
      omega
     ·rw[if_neg e]
      have:=hm k (by omega)
      have:s k≠n:=λh=>e (hi k j (by omega) hj (by omega))
      omega)
    (λk l hk hl h=>by
     by_cases e:k=j
     ·by_cases e2:l=j
      ·omega
      ·rw[if_pos e,if_neg e2] at h
       have:=hi n l (by omega) (by omega) h
       omega
     ·by_cases e2:l=j
      ·rw[if_neg e,if_pos e2] at h
       have:=hi k n (by omega) (by omega) h
       omega
      ·rw[if_neg e,if_neg e2] at h
       exact hi k l (by omega) (by omega) h)
   rw[prodF,prodF,<-ht]
   by_cases e:j=n
   ·subst e
    rw[hjn]
    congr 1
    exact prodF_congr λk hk=>by rw[if_neg (by omega)]
   ·have h1:prodF n (λk=>f (s k))=prodF n (λk=>(if k=j then f (s k) else 1)*(if k=j then 1 else f (s k))):=prodF_congr λk _=>by
      by_cases e:k=j
      ·rw[if_pos e,if_pos e];grind
      ·rw[if_neg e,if_neg e];grind
    have h2:prodF n (λk=>f (if k=j then s n else s k))=prodF n (λk=>(if k=j then f (s n) else 1)*(if k=j then 1 else f (s k))):=prodF_congr λk _=>by
     by_cases e:k=j
     ·rw[if_pos e,if_pos e,if_pos e];grind
     ·rw[if_neg e,if_neg e,if_neg e];grind
    rw[h1,h2,prodF_mul,prodF_mul,prodF_one n j (λk=>f (s k)) (by omega),prodF_one n j (λ_=>f (s n)) (by omega),hjn]
    grind
theorem prodF_ne(hq:Prm q)(n:Nat)(f:Nat->Fin q)(h:∀k,k<n->f k≠0):prodF n f≠0:=by
 induction n with
 |zero=>
   intro e
   have:(1:Fin q).val=(0:Fin q).val:=congrArg Fin.val e
   have h1:1%q=0:=this
   rw[Nat.mod_eq_of_lt hq.1] at h1
   omega
 |succ n ih=>
   intro e
   rcases fin_mul_zero hq e with e|e
   ·exact ih (λk hk=>h k (by omega)) e
   ·exact h n (by omega) e
theorem prodF_left(n a:Nat)(f:Nat->Fin q):prodF n (λk=>Fin.ofNat q a*f k)=pw q a n*prodF n f:=by
 induction n with
 |zero=>rw[pw_zero];unfold prodF;grind
 |succ n ih=>
   have:pw q a (n+1)=pw q a n*Fin.ofNat q a:=by rw[pw_add];unfold pw;rw[Nat.pow_one]
   rw[prodF,prodF,ih,this]
   grind
theorem fermat(hq:Prm q){a:Nat}(ha:¬q∣a):pw q a (q-1)=1:=by
 have h2:=hq.1
 have key:∀k,k<q-1->a*(k+1)%q≠0:=λk hk e=>by
  rcases hq.mul (Nat.dvd_of_mod_eq_zero e) with h|h
  ·exact ha h
  ·have:=Nat.le_of_dvd (by omega) h
   omega
 have hlt:∀k,a*(k+1)%q<q:=λk=>Nat.mod_lt _ (by omega)
 have hp:=prodF_perm (q:=q) (q-1) (λk=>a*(k+1)%q-1) (λk=>Fin.ofNat q (k+1)) (λk hk=>by
   have:=key k hk
   have:=hlt k
   show a*(k+1)%q-1<q-1
   omega) (λk l hk hl e=>by
   have h3:=key k hk
   have h4:=key l hl
   have e:a*(k+1)%q-1=a*(l+1)%q-1:=e
   have e:a*(k+1)%q=a*(l+1)%q:=by omega
   rcases Nat.le_total k l with hkl|hkl
   ·have h5:q∣a*(l+1)-a*(k+1):=Nat.dvd_of_mod_eq_zero (Nat.sub_mod_eq_zero_of_mod_eq e.symm)
    rw[<-Nat.mul_sub] at h5
    rcases hq.mul h5 with h|h
    ·exact absurd h ha
    ·have:=Nat.eq_zero_of_dvd_of_lt h (by omega)
     omega
   ·have h5:q∣a*(k+1)-a*(l+1):=Nat.dvd_of_mod_eq_zero (Nat.sub_mod_eq_zero_of_mod_eq e)
    rw[<-Nat.mul_sub] at h5
    rcases hq.mul h5 with h|h
    ·exact absurd h ha
    ·have:=Nat.eq_zero_of_dvd_of_lt h (by omega)
     omega)
 have h5:prodF (q:=q) (q-1) (λk=>Fin.ofNat q (a*(k+1)%q-1+1))=prodF (q-1) (λk=>Fin.ofNat q a*Fin.ofNat q (k+1)):=prodF_congr λk hk=>by
  have:=key k hk
  rw[Nat.sub_add_cancel (by omega),<-ofNat_mul]
  exact ofNat_congr (Nat.mod_mod _ _)
 rw[h5,prodF_left] at hp
 have hne:prodF (q:=q) (q-1) (λk=>Fin.ofNat q (k+1))≠0:=prodF_ne hq _ _ λk hk e=>by
  have:(Fin.ofNat q (k+1)).val=(0:Fin q).val:=congrArg Fin.val e
  have h6:(k+1)%q=0:=this
  rw[Nat.mod_eq_of_lt (by omega)] at h6
  omega
 rcases fin_mul_zero hq (a:=pw q a (q-1)-1) (b:=prodF (q-1) (λk=>Fin.ofNat q (k+1))) (by grind) with e|e
 ·grind
 ·exact absurd e hne
end
end Go.Proofs.Yteaimnemobnknaa
