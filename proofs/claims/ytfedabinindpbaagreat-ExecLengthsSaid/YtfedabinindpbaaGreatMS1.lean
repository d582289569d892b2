/- Sums over remainders by a number: plain laws. -/

set_option linter.unusedSimpArgs false
set_option linter.unusedVariables false
namespace Go.Proofs.YtfedabinindpbaaGreat
def sumF{q:Nat}[NeZero q]:Nat->(Nat->Fin q)->Fin q
 |0,_=>0
 |n+1,f=>sumF n f+f n
section
variable {q : Nat} [NeZero q]
theorem sumF_succ(n:Nat)(f:Nat->Fin q):sumF (n+1) f=sumF n f+f n:=rfl
theorem sumF_nil(f:Nat->Fin q):sumF 0 f=0:=rfl
theorem sumF_congr{n:Nat}{f g:Nat->Fin q}(h:∀k,k<n->f k=g k):sumF n f=sumF n g:=by
 induction n with
 |zero=>rfl
 |succ n ih=>rw[sumF_succ,sumF_succ,ih λk hk=>h k (by omega),h n (by omega)]
theorem sumF_zero(n:Nat):sumF n (λ_=>(0:Fin q))=0:=by
 induction n with
 |zero=>rfl
 |succ n ih=>rw[sumF_succ,ih];grind
theorem sumF_add(n:Nat)(f g:Nat->Fin q):sumF n (λk=>f k+g k)=sumF n f+sumF n g:=by
 induction n with
 |zero=>rw[sumF_nil,sumF_nil,sumF_nil];grind
 |succ n ih=>rw[sumF_succ,sumF_succ,sumF_succ,ih];grind
theorem sumF_left(n:Nat)(c:Fin q)(f:Nat->Fin q):sumF n (λk=>c*f k)=c*sumF n f:=by
 induction n with
 |zero=>rw[sumF_nil,sumF_nil];grind
 |succ n ih=>rw[sumF_succ,sumF_succ,ih];grind
theorem sumF_right(n:Nat)(c:Fin q)(f:Nat->Fin q):sumF n (λk=>f k*c)=sumF n f*c:=by
 induction n with
 |zero=>rw[sumF_nil,sumF_nil];grind
 |succ n ih=>rw[sumF_succ,sumF_succ,ih];grind
theorem sumF_comm(n m:Nat)(f:Nat->Nat->Fin q):sumF n (λi=>sumF m (λj=>f i j))=sumF m (λj=>sumF n (λi=>f i j)):=by
 induction n with
 |zero=>
   rw[sumF_nil]
   exact(sumF_zero m).symm
 |succ n ih=>
   rw[sumF_succ,ih,<-sumF_add]
   rfl
theorem sumF_app(n m:Nat)(f:Nat->Fin q):sumF (n+m) f=sumF n f+sumF m (λk=>f (n+k)):=by
 induction m with
 |zero=>rw[sumF_nil];show sumF n f=_;grind
 |succ m ih=>show sumF (n+m) f+f (n+m)=_;rw[ih,sumF_succ];grind
theorem sumF_grid(r c:Nat)(f:Nat->Fin q):sumF (r*c) f=sumF c (λb=>sumF r (λi=>f (b+i*c))):=by
 rw[sumF_comm]
 induction r with
 |zero=>rw[Nat.zero_mul,sumF_nil,sumF_nil]
 |succ r ih=>
   rw[Nat.succ_mul,sumF_app,ih,sumF_succ]
   congr 1
   exact sumF_congr λk _=>by rw[Nat.add_comm]
theorem sumF_one(n j:Nat)(f:Nat->Fin q)(hj:j<n):sumF n (λk=>if k=j then f k else 0)=f j:=by
 induction n with
 |zero=>omega
 |succ n ih=>
   rw[sumF_succ]
   by_cases e:n=j
   ·subst e
    rw[if_pos rfl,sumF_congr (g:=λ_=>0) λk hk=>by rw[if_neg (by omega)],sumF_zero]
    grind
   ·rw[ih (by omega),if_neg e];grind
theorem sumF_perm(n:Nat)(s:Nat->Nat)(f:Nat->Fin q)(hm:∀k,k<n->s k<n)(hi:∀k l,k<n->l<n->s k=s l->k=l):sumF n (λk=>f (s k))=sumF n f:=by
 induction n generalizing s f with
 |zero=>rfl
 |succ n ih=>
   have hex:∃j,j<n+1/\s j=n:=by
    apply Classical.byContradiction
    intro hno
    have hlt:∀k,k<n+1->s k<n:=λk hk=>by
     have:=hm k hk
     have:s k≠n:=λe=>hno ⟨k,hk,e⟩
     omega
    exact pigeon n s hlt hi
   obtain⟨j,hj,hjn⟩:=hex
   have ht:=ih (λk=>if k=j then s n else s k) f
    (λk hk=>by
     show(if k=j then s n else s k)<n
     by_cases e:k=j
     ·rw[if_pos e]
      have:=hm n (by omega)
      have:s n≠n:=λh=>by have:=hi n j (by omega) hj (by omega);omega
      omega
     ·rw[if_neg e]
      have:=hm k (by omega)
      have:s k≠n:=λh=>e (hi k j (by omega) hj (by omega))
      omega)
    (λk l hk hl h=>by
     by_cases e:k=j
     ·by_cases e2:l=j
      ·omega
      ·rw[if_pos e,if_neg e2] at h
       have:=hi n l (by omega) (by omega) h
       omega
     ·by_cases e2:l=j
      ·rw[if_neg e,if_pos e2] at h
       have:=hi k n (by omega) (by omega) h
       omega
      ·rw[if_neg e,if_neg e2] at h
       exact hi k l (by omega) (by omega) h)
   rw[sumF_succ,sumF_succ,<-ht]
   by_cases e:j=n
   ·subst e
    rw[hjn]
    congr 1
    exact sumF_congr λk hk=>by rw[if_neg (by omega)]
   ·have h1:sumF n (λk=>f (s k))=sumF n (λk=>(if k=j then f (s k) else 0)+(if k=j then 0 else f (s k))):=sumF_congr λk _=>by
      by_cases e:k=j
      ·rw[if_pos e,if_pos e];grind
      ·rw[if_neg e,if_neg e];grind
    have h2:sumF n (λk=>f (if k=j then s n else s k))=sumF n (λk=>(if k=j then f (s n) else 0)+(if k=j then 0 else f (s k))):=sumF_congr λk _=>by
     by_cases e:k=j
     ·rw[if_pos e,if_pos e,if_pos e];grind
     ·rw[if_neg e,if_neg e,if_neg e];grind
    rw[h1,h2,sumF_add,sumF_add,sumF_one n j (λk=>f (s k)) (by omega),sumF_one n j (λ_=>f (s n)) (by omega),hjn]
    grind
where
 pigeon:∀(n:Nat) (s:Nat->Nat),(∀k,k<n+1->s k<n)->(∀k l,k<n+1->l<n+1->s k=s l->k=l)->False:=by
  intro n
  induction n with
  |zero=>intro s h _;have:=h 0 (by omega);omega
  |succ n ih=>
    intro s h hi
    refine ih (λk=>if s k=n then s (n+1) else s k) (λk hk=>?_) (λk l hk hl e=>?_)
    ·by_cases e:s k=n
     ·rw[if_pos e]
      have:=h (n+1) (by omega)
      have:s (n+1)≠n:=λe2=>by have:=hi k (n+1) (by omega) (by omega) (by omega);omega
      omega
     ·rw[if_neg e]
      have:=h k (by omega)
      omega
    ·by_cases e1:s k=n
     ·by_cases e2:s l=n
      ·exact hi k l (by omega) (by omega) (by omega)
      ·rw[if_pos e1,if_neg e2] at e
       have:=hi (n+1) l (by omega) (by omega) e
       omega
     ·by_cases e2:s l=n
      ·rw[if_neg e1,if_pos e2] at e
       have:=hi k (n+1) (by omega) (by omega) e
       omega
      ·rw[if_neg e1,if_neg e2] at e
       exact hi k l (by omega) (by omega) e
end
structure Rg(T:Type) where
 zero:T
 add:T->T->T
 sub:T->T->T
 mul:T->T->T
 over:T->Int->T
 root:Int->Int->T
def foldT{T:Type}:Nat->(T->Nat->T)->T->T
 |0,_,z=>z
 |n+1,f,z=>f (foldT n f z) n
def updT{T:Type}(f:Nat->T)(j:Nat)(v:T):Nat->T:=λi=>if i=j then v else f i
def unitI(s:Int):Int:=if s<0 then-1 else 1
section
variable {T : Type} (R : Rg T)
def dotF(n:Nat)(s:Int)(x:Nat->T)(j:Nat):Nat->T:=λm=>foldT m (λacc k=>R.add acc (R.mul (x k) (R.root (unitI s*((j*k%n:Nat):Int)) n))) R.zero
def directF(n:Nat)(s:Int)(x:Nat->T):Nat->T:=λj=>dotF R n s x j n
def twistF(rows cols:Nat)(s:Int)(x:Nat->T):Nat->T:=λy=>R.mul (x y) (R.root (unitI s*((y/cols:Nat):Int)*((y%cols:Nat):Int)) ((rows*cols:Nat):Int))
def timesF(a b:Nat->T):Nat->T:=λi=>R.mul (a i) (b i)
def overF(a:Nat->T)(n:Int):Nat->T:=λi=>R.over (a i) n
def sumT(n:Nat)(a:Nat->T):T:=foldT n (λacc k=>R.add acc (a k)) R.zero
def gathT(x:Nat->T)(off st:Nat):Nat->T:=λi=>x (off+i*st)
def scatT(g f:Nat->T)(off st m:Nat):Nat->T:=foldT m (λh k=>updT h (off+k*st) (f k)) g
abbrev Tr(T:Type):=Int->(Nat->T)->Nat->T
def mid0F(c r:Nat)(s:Int)(K:Tr T)(x:Nat->T):Nat->Nat->T:=λm=>foldT m (λh b=>scatT h (K s (gathT x b c)) b c r) (λ_=>R.zero)
def midF(n r:Nat)(s:Int)(K:Tr T)(x:Nat->T):Nat->T:=twistF R r (n/r) s (mid0F R (n/r) r s K x (n/r))
def outF(n r:Nat)(s:Int)(K0 K1:Tr T)(x:Nat->T):Nat->Nat->T:=λm=>foldT m (λh a=>scatT h (K1 s (gathT (midF R n r s K0 x) (a*(n/r)) 1)) a r (n/r)) (λ_=>R.zero)
def radixF(n r:Nat)(K0 K1:Tr T):Tr T:=λs x=>outF R n r s K0 K1 x r
def splitR(n:Nat)(s:Int)(e z y:Nat->T)(h:Nat->T)(k:Nat):Nat->T:=
 let q:=n/4
 let i:=R.root (s*((q:Nat):Int)) n
 let u:=R.mul (R.root (s*(k:Int)) n) (z k)
 let v:=R.mul (R.root (s*(-(k:Int))) n) (y k)
 let a:=R.add u v
 let d:=R.mul i (R.sub u v)
 updT (updT (updT (updT h k (R.add (e k) a)) (k+2*q) (R.sub (e k) a)) (k+q) (R.add (e (k+q)) d)) (k+3*q) (R.sub (e (k+q)) d)
def consT(a:T)(f:Nat->T):Nat->T:=λi=>if i=0 then a else f (i-1)
def splitF:Nat->Nat->Tr T
 |0,n=>directF R n
 |f+1,n=>λs x=>
   if n<4 then directF R n s x else
   foldT (n/4) (splitR R n s (splitF f (n/2) s (gathT x 0 2)) (splitF f (n/4) s (gathT x 1 4)) (splitF f (n/4) s (consT (x (n-1)) (gathT x 3 4)))) (λ_=>R.zero)
def convF(m:Nat)(K:Tr T)(a b:Nat->T):Nat->T:=overF R (K (-1) (timesF R (K 1 a) (K 1 b))) m
def raderA(pw:Nat->Nat)(x:Nat->T):Nat->T:=λk=>x (pw k)
def raderB(n:Nat)(s:Int)(pw:Nat->Nat):Nat->T:=λk=>R.root (s*((pw ((n-1-k)%(n-1)):Nat):Int)) n
def raderO(n:Nat)(pw:Nat->Nat)(x c:Nat->T)(m:Nat):Nat->T:=foldT m (λh k=>updT h (pw ((n-1-k)%(n-1))) (R.add (x 0) (c k))) (updT (λ_=>R.zero) 0 (sumT R n x))
def raderF(n:Nat)(pw:Nat->Nat)(K:Tr T):Tr T:=λs x=>raderO R n pw x (convF R (n-1) K (raderA pw x) (raderB R n s pw)) (n-1)
def sqr(n k:Nat):Nat:=k*k%(2*n)
def blueC(n:Nat)(s:Int):Nat->T:=λk=>R.root (s*((sqr n k:Nat):Int)) ((2*n:Nat):Int)
def blueD(n:Nat)(s:Int):Nat->T:=λk=>R.root (s*(-((sqr n k:Nat):Int))) ((2*n:Nat):Int)
def blueA(n:Nat)(s:Int)(x:Nat->T)(j:Nat):Nat->T:=λk=>if k<j then R.mul (x k) (blueC R n s k) else R.zero
def blueB(n m:Nat)(s:Int)(j:Nat):Nat->T:=foldT j (λh k=>updT (updT h k (blueD R n s k)) ((m-k)%m) (blueD R n s k)) (λ_=>R.zero)
def blueF(n m:Nat)(K:Tr T):Tr T:=λs x=>timesF R (convF R m K (blueA R n s x n) (blueB R n m s n)) (blueC R n s)
def nodeF(pw:Nat->Nat->Nat)(kind:Int)(n r:Nat)(ns:List Nat)(Ks:List (Tr T)):Tr T:=
 if kind=1 then radixF R n r (Ks.getD 0 λ_ x=>x) (Ks.getD 1 λ_ x=>x)
 else if kind=2 then splitF R n n
 else if kind=3 then raderF R n (pw n) (Ks.getD 0 λ_ x=>x)
 else if kind=4 then blueF R n (ns.getD 0 0) (Ks.getD 0 λ_ x=>x)
 else directF R n
end
inductive Fo
 |nil
 |cons (kind n r:Int) (kids rest:Fo)
def Fo.len:Fo->Nat
 |.nil=>0
 |.cons _ _ _ _ r=>r.len+1
def Fo.sizes:Fo->List Nat
 |.nil=>[]
 |.cons _ n _ _ r=>n.toNat::r.sizes
def Fo.runs{T:Type}(R:Rg T)(pw:Nat->Nat->Nat):Fo->List (Tr T)
 |.nil=>[]
 |.cons kind n r kids rest=>nodeF R pw kind n.toNat r.toNat kids.sizes (kids.runs R pw)::rest.runs R pw
section
variable {T : Type}
theorem foldT_succ(n:Nat)(f:T->Nat->T)(z:T):foldT (n+1) f z=f (foldT n f z) n:=rfl
theorem foldT_congr{n:Nat}{f g:T->Nat->T}{z:T}(h:∀a k,k<n->f a k=g a k):foldT n f z=foldT n g z:=by
 induction n with
 |zero=>rfl
 |succ n ih=>rw[foldT_succ,foldT_succ,ih λa k hk=>h a k (by omega),h _ n (by omega)]
theorem fold_upd_ne(m:Nat)(p:Nat->Nat)(v:Nat->T)(g:Nat->T)(y:Nat)(h:∀k,k<m->p k≠y):foldT m (λh k=>updT h (p k) (v k)) g y=g y:=by
 induction m with
 |zero=>rfl
 |succ m ih=>
   rw[foldT_succ]
   show(if y=p m then _ else _)=_
   rw[if_neg (λe=>h m (by omega) e.symm),ih λk hk=>h k (by omega)]
theorem fold_upd_at(m:Nat)(p:Nat->Nat)(v:Nat->T)(g:Nat->T)(j:Nat)(hj:j<m)(hi:∀k,k<m->p k=p j->k=j):foldT m (λh k=>updT h (p k) (v k)) g (p j)=v j:=by
 induction m with
 |zero=>omega
 |succ m ih=>
   rw[foldT_succ]
   show(if p j=p m then _ else _)=_
   by_cases e:p j=p m
   ·rw[if_pos e,hi m (by omega) e.symm]
   ·rw[if_neg e]
    by_cases e2:j=m
    ·exact absurd (by rw[e2]) e
    ·exact ih (by omega) λk hk=>hi k (by omega)
theorem scatT_at(g f:Nat->T)(off st m k:Nat)(hst:1<=st)(hk:k<m):scatT g f off st m (off+k*st)=f k:=
 fold_upd_at m (λk=>off+k*st) f g k hk λl _ e=>by
  have:l*st=k*st:=by omega
  exact Nat.eq_of_mul_eq_mul_right (by omega) this
theorem scatT_ne(g f:Nat->T)(off st m y:Nat)(h:∀k,k<m->off+k*st≠y):scatT g f off st m y=g y:=fold_upd_ne m (λk=>off+k*st) f g y h
theorem cols_at(F:Nat->Nat->T)(c r M b i:Nat)(g:Nat->T)(hb:b<M)(hM:M<=c)(hi:i<r):foldT M (λh b=>scatT h (F b) b c r) g (b+i*c)=F b i:=by
 induction M with
 |zero=>omega
 |succ M ih=>
   rw[foldT_succ]
   by_cases e:b=M
   ·subst e
    exact scatT_at _ _ _ _ _ _ (by omega) hi
   ·rw[scatT_ne _ _ _ _ _ _ λk hk h=>?_]
    ·exact ih (by omega) (by omega)
    ·have e1:(M+k*c)%c=M:=by rw[Nat.add_mul_mod_self_right,Nat.mod_eq_of_lt (by omega)]
     have e2:(b+i*c)%c=b:=by rw[Nat.add_mul_mod_self_right,Nat.mod_eq_of_lt (by omega)]
     rw[h,e2] at e1
     omega
end
def pmod(a e m:Nat):Nat:=a^e%m
theorem pmod_lt(a e m:Nat)(hm:1<=m):pmod a e m<m:=Nat.mod_lt _ hm
structure PowS(T m e x out:Nat):Prop where
 eq:out*x^e%m=T
theorem PowS.even{T m e x out:Nat}(h:PowS T m (2*e) x out):PowS T m e (x*x%m) out:=⟨by
 rw[<-h.eq,Nat.pow_mul,Nat.pow_two,Nat.mul_mod,<-Nat.pow_mod,<-Nat.mul_mod]⟩
theorem PowS.odd{T m e x out:Nat}(h:PowS T m (2*e+1) x out):PowS T m e (x*x%m) (out*x%m):=⟨by
 rw[<-h.eq,Nat.pow_succ,Nat.pow_mul,Nat.pow_two,Nat.mul_mod,Nat.mod_mod,<-Nat.pow_mod,<-Nat.mul_mod]
 congr 1
 rw[Nat.mul_assoc,Nat.mul_comm x]⟩
theorem PowS.done{T m x out:Nat}(h:PowS T m 0 x out)(ho:out<m):out=T:=by
 rw[<-h.eq,Nat.pow_zero,Nat.mul_one,Nat.mod_eq_of_lt ho]
def pmL:Nat->Nat->Nat->Nat->Nat->Nat
 |0,_,_,out,_=>out
 |f+1,e,x,out,m=>bif Nat.beq e 0 then out else pmL f (e/2) (x*x%m) (bif Nat.beq (e%2) 1 then out*x%m else out) m
def pmB(a e m:Nat):Nat:=pmL 64 e (a%m) (1%m) m
theorem bif_eq{T:Type}(a b:Nat)(x y:T):(bif Nat.beq a b then x else y)=if a=b then x else y:=by
 by_cases h:a=b
 ·rw[if_pos h,h,Nat.beq_refl];rfl
 ·rw[if_neg h,show Nat.beq a b=false from Bool.eq_false_iff.2 (λe=>h (Nat.eq_of_beq_eq_true e))];rfl
theorem bif_le{T:Type}(a b:Nat)(x y:T):(bif Nat.ble a b then x else y)=if a<=b then x else y:=by
 by_cases h:a<=b
 ·rw[if_pos h,Nat.ble_eq_true_of_le h];rfl
 ·rw[if_neg h,show Nat.ble a b=false from Bool.eq_false_iff.2 (λe=>h (Nat.le_of_ble_eq_true e))];rfl
theorem pmL_eq{T m:Nat}(m1:1<=m)(f:Nat):∀e x out,e<2^f->out<m->PowS T m e x out->pmL f e x out m=T:=by
 induction f with
 |zero=>
   intro e x out he ho h
   obtain rfl:e=0:=by omega
   exact h.done ho
 |succ f ih=>
   intro e x out he ho h
   show(bif Nat.beq e 0 then out else pmL f (e/2) (x*x%m) (bif Nat.beq (e%2) 1 then out*x%m else out) m)=_
   rw[bif_eq,bif_eq]
   by_cases e0:e=0
   ·rw[if_pos e0];subst e0;exact h.done ho
   ·rw[if_neg e0]
    rcases Nat.mod_two_eq_zero_or_one e with h2|h2
    ·rw[if_neg (by omega)]
     exact ih _ _ _ (by rw[Nat.pow_succ] at he;omega) ho (PowS.even (by rw[show 2*(e/2)=e from by omega];exact h))
    ·rw[if_pos h2]
     exact ih _ _ _ (by rw[Nat.pow_succ] at he;omega) (Nat.mod_lt _ m1) (PowS.odd (by rw[show 2*(e/2)+1=e from by omega];exact h))
theorem pmB_eq(a e m:Nat)(m1:1<=m)(he:e<2^64):pmB a e m=pmod a e m:=by
 refine pmL_eq m1 64 _ _ _ he (Nat.mod_lt _ m1) ⟨?_⟩
 unfold pmod
 rw[Nat.mod_mul_mod,Nat.one_mul,<-Nat.pow_mod]
def oddL:Nat->Nat->Nat
 |0,d=>d
 |f+1,d=>bif Nat.beq (d%2) 0 then oddL f (d/2) else d
def strL:Nat->Nat->Nat->Nat->Bool
 |0,_,_,_=>false
 |f+1,d,x,n=>bif Nat.ble (n-1) d then false else(bif Nat.beq x (n-1) then true else strL f (d*2) (x*x%n) n)
def strongB(n b:Nat):Bool:=
 bif Nat.beq (pmB b (oddL 64 (n-1)) n) 1 then true else strL 64 (oddL 64 (n-1)) (pmB b (oddL 64 (n-1)) n) n
def basesL:List Nat:=[2,3,5,7,11,13,17,19,23,29,31,37]
def divL(n:Nat):List Nat->Option Bool
 |[]=>none
 |b::l=>bif Nat.beq (n%b) 0 then some (Nat.beq n b) else divL n l
def allS(n:Nat):List Nat->Bool
 |[]=>true
 |b::l=>bif strongB n b then allS n l else false
def isB(n:Nat):Bool:=bif Nat.ble n 1 then false else match divL n basesL with|some r=>r|none=>allS n basesL
def priL:Nat->Nat->Nat->Bool
 |0,_,_=>true
 |f+1,d,n=>bif Nat.ble d (n/d) then(bif Nat.beq (n%d) 0 then false else priL f (d+1) n) else true
def primeB(n:Nat):Bool:=bif Nat.ble n 1 then false else priL n 2 n
def stripL:Nat->Nat->Nat->Nat
 |0,n,_=>n
 |f+1,n,p=>bif Nat.beq (n%p) 0 then stripL f (n/p) p else n
def facL:Nat->Nat->Nat->List Nat
 |0,_,_=>[]
 |f+1,n,p=>bif Nat.ble n 1 then [] else
   bif Nat.ble (p*p) n then(bif Nat.beq (n%p) 0 then p::facL f (stripL 64 n p) (p+1) else facL f n (p+1)) else [n]
def ordD:Nat->Nat->Nat->Nat->Nat->Nat
 |0,_,_,e,_=>e
 |f+1,a,n,e,p=>bif Nat.beq (e%p) 0 then(bif Nat.beq (pmB a (e/p) n) (pmB 1 1 n) then ordD f a n (e/p) p else e) else e
def ordL(a n:Nat):List Nat->Nat->Nat
 |[],e=>e
 |p::l,e=>ordL a n l (ordD 64 a n e p)
def ordB(a n e:Nat):Nat:=ordL a n (facL e e 2) e
def rooL:Nat->Nat->Nat->Nat
 |0,g,_=>g
 |f+1,g,p=>bif Nat.beq (ordB g p (p-1)) (p-1) then g else rooL f (g+1) p
def rootB(p:Nat):Nat:=rooL 200 1 p
def allR(P:Nat->Bool):Nat->Nat->Bool
 |0,lo=>P lo
 |d+1,lo=>bif allR P d lo then allR P d (lo+2^d) else false
theorem allR_at{P:Nat->Bool}(d:Nat):∀lo n,allR P d lo=true->lo<=n->n<lo+2^d->P n=true:=by
 induction d with
 |zero=>
   intro lo n h h1 h2
   obtain rfl:n=lo:=by omega
   exact h
 |succ d ih=>
   intro lo n h h1 h2
   have h3:(bif allR P d lo then allR P d (lo+2^d) else false)=true:=h
   by_cases e:allR P d lo=true
   ·rw[e] at h3
    by_cases h4:n<lo+2^d
    ·exact ih lo n e h1 h4
    ·exact ih (lo+2^d) n h3 (by omega) (by rw[Nat.pow_succ] at h2;omega)
   ·rw[Bool.eq_false_iff.2 e] at h3
    cases h3
def sameB(n:Nat):Bool:=bif primeB n then isB n else !isB n
def rootOk(n:Nat):Bool:=bif primeB n then(bif Nat.ble n 2 then true else(λg=>bif Nat.beq (ordB g n (n-1)) (n-1) then(bif Nat.beq (pmB g (n-1) n) 1 then Nat.ble g 199 else false) else false) (rootB n)) else true
end Go.Proofs.YtfedabinindpbaaGreat
