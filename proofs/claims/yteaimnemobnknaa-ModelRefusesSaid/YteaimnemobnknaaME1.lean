/- The document's transform over a field is the one that is defined; there and back, twice. Plain. -/
import Derived.Test.YteaimnemobnknaaMD2
set_option linter.unusedSimpArgs false
set_option linter.unusedVariables false
namespace Go.Proofs.Yteaimnemobnknaa
open Go.RowKit Go.Lib
section
variable {q : Nat} [NeZero q]
theorem rtF_ne{v o:Nat}(O:Ord v o q)(k:Int)(n:Nat):rtF q v o k n≠0:=by
 intro h
 have h1:(rtF q v o k n).val=(0:Fin q).val:=by rw[h]
 exact ord_pow_ne O _ h1
theorem rt_mul{v o:Nat}(O:Ord v o q)(hp:Prm q){n:Nat}(n1:1<=n)(hn:n∣o)(a b:Int):rtF q v o (a+b) n=rtF q v o a n*rtF q v o b n:=(O.rts hp).add n a b n1 hn
theorem rdF_dft{v o:Nat}(hp:Prm q)(O:Ord v o q)(hoq:o<q){n:Nat}(n1:1<=n)(hn:n∣o){s:Int}(hs:s=1\/s=-1)(f:Nat->Int)(j:Nat):
  hq q ((rdF q v o n s f j:Nat):Int)=dft (rtF q v o) n s (λk=>hq q (f k)) j:=by
 have H:=hom_law hp O hoq
 have hst:hq q ((rootR q v o (unitI s*(j:Int)) n:Nat):Int)=rtF q v o (s*(j:Int)) n:=by
  rw[unit_one hs]
  exact H.root (s*(j:Int)) n n1 hn
 unfold rdF
 generalize rootR q v o (unitI s*(j:Int)) n=st at hst|-
 have hne:st≠0:=by
  rintro rfl
  exact rtF_ne O _ _ (hst.symm.trans hq_zero)
 rw[if_neg hne]
 have key:∀k,hq q ((rdL q st 1 f k).1:Nat)=(sumF k λi=>hq q (f i)*rtF q v o (s*((j:Int)*i)) n)/\hq q ((rdL q st 1 f k).2:Nat)=rtF q v o (s*((j:Int)*k)) n:=by
  intro k
  induction k with
  |zero=>
    refine⟨hq_zero,?_⟩
    show hq q ((1:Nat):Int)=_
    rw[Int.natCast_zero,Int.mul_zero,Int.mul_zero,(O.rts hp).zero n n1 hn]
    exact hq_one
  |succ k ih=>
    obtain⟨h1,h2⟩:=ih
    have hx:(((f k%(q:Int)).toNat:Nat):Int)=f k%q:=Int.toNat_of_nonneg (Int.emod_nonneg _ (by have:=hp.1;omega))
    refine⟨?_,?_⟩
    ·show hq q ((((rdL q st 1 f k).1+(f k%(q:Int)).toNat*(rdL q st 1 f k).2%q)%q:Nat):Int)=_
     rw[Int.natCast_emod,hq_mod,Int.natCast_add,hq_add,Int.natCast_emod,hq_mod,Int.natCast_mul,hq_mul,hx,hq_mod,h1,h2,sumF_succ]
    ·show hq q (((rdL q st 1 f k).2*st%q:Nat):Int)=_
     rw[Int.natCast_emod,hq_mod,Int.natCast_mul,hq_mul,h2,hst,<-rt_mul O hp n1 hn]
     congr 1
     rw[Int.natCast_add]
     grind
 exact(key n).1
theorem dft_back{v o:Nat}(hp:Prm q)(O:Ord v o q){n:Nat}(n1:1<=n)(hn:n∣o)(s:Int)(hs:s=1\/s=-1)(x:Nat->Fin q)(j:Nat)(hj:j<n):
  dft (rtF q v o) n (-s) (λk=>dft (rtF q v o) n s x k) j=sumF n (λ_=>1)*x j:=by
 have H:=O.rts hp
 unfold dft
 have e1:∀k:Nat,sumF n (λi=>x i*rtF q v o (s*((k:Int)*(i:Nat))) n)*rtF q v o (-s*((j:Int)*(k:Nat))) n=sumF n (λi=>x i*rtF q v o ((s*((i:Int)-j))*(k:Nat)) n):=λk=>by
  rw[<-sumF_right]
  refine sumF_congr λi _=>?_
  have:s*((i:Int)-j)*(k:Nat)=s*((k:Int)*(i:Nat))+-s*((j:Int)*(k:Nat)):=by grind
  rw[this,H.add n _ _ n1 hn]
  grind
 rw[sumF_congr (g:=λk=>sumF n (λi=>x i*rtF q v o ((s*((i:Int)-j))*(k:Nat)) n)) (λk _=>e1 k),sumF_comm]
 have e2:∀i,i<n->sumF n (λk=>x i*rtF q v o ((s*((i:Int)-j))*(k:Nat)) n)=if i=j then sumF n (λ_=>1)*x j else 0:=λi hi=>by
  rw[sumF_left,H.orth' n1 hn]
  by_cases h:i=j
  ·subst h
   rw[if_pos rfl,if_pos (by rw[Int.sub_self,Int.mul_zero];exact Int.dvd_zero _)]
   grind
  ·rw[if_neg h,if_neg]
   ·grind
   ·intro hd
    have hd2:(n:Int)∣((i:Int)-j):=by
     rcases hs with rfl|rfl
     ·rwa [Int.one_mul] at hd
     ·rw[show(-1:Int)*((i:Int)-j)=-((i:Int)-j) from by omega] at hd
      exact(Int.dvd_neg).1 hd
    obtain⟨c,hc⟩:=hd2
    have h3:-(n:Int)<(i:Int)-j/\(i:Int)-j<n:=by omega
    rw[hc] at h3
    have hc0:c=0:=by
     rcases Int.lt_trichotomy c 0 with h4|h4|h4
     ·have:(n:Int)*c<=(n:Int)*(-1):=Int.mul_le_mul_of_nonneg_left (by omega) (by omega)
      omega
     ·exact h4
     ·have:(n:Int)*1<=(n:Int)*c:=Int.mul_le_mul_of_nonneg_left (by omega) (by omega)
      omega
    rw[hc0,Int.mul_zero] at hc
    exact h (by omega)
 rw[sumF_congr e2,sumF_pick n j _ hj (λk hk hne=>if_neg hne),if_pos rfl]
theorem dft_twice{v o:Nat}(hp:Prm q)(O:Ord v o q){n:Nat}(n1:1<=n)(hn:n∣o)(x:Nat->Fin q)(j:Nat)(hj:j<n):
  dft (rtF q v o) n 1 (λk=>dft (rtF q v o) n 1 x k) j=sumF n (λ_=>1)*x ((n-j)%n):=by
 have H:=O.rts hp
 have hb:=dft_back hp O n1 hn 1 (.inl rfl) x ((n-j)%n) (Nat.mod_lt _ n1)
 rw[<-hb]
 unfold dft
 refine sumF_congr λk _=>?_
 congr 1
 have e:(1:Int)*((j:Int)*(k:Nat))=-1*((((n-j)%n:Nat):Int)*(k:Nat))+n*((k:Nat)*(((n-j)/n:Nat):Int)*0+(if j=0 then 0 else(k:Int))):=by
  by_cases h0:j=0
  ·subst h0
   rw[if_pos rfl,Nat.sub_zero,Nat.mod_self]
   simp
  ·rw[if_neg h0,Nat.mod_eq_of_lt (by omega),Int.ofNat_sub (by omega)]
   grind
 rw[e]
 exact H.mod n1 hn _ _
theorem hq_ne{n:Nat}(hp:Prm q)(n1:1<=n)(hn:n<q):hq q (n:Int)≠0:=by
 intro h
 have h1:=hq_val (q:=q) (n:Int)
 rw[h,Int.emod_eq_of_lt (by omega) (by omega)] at h1
 have:(((0:Fin q).val:Nat):Int)=0:=rfl
 omega
theorem mul_cancel(hp:Prm q){a b c:Fin q}(hc:c≠0)(h:a*c=b*c):a=b:=by
 have h1:(a-b)*c=0:=by grind
 rcases fin_mul_zero hp h1 with e|e
 ·grind
 ·exact absurd e hc
end
theorem oroL_dvd:∀(l:List (Int×Int×Int)) (a o:Nat),(∀x∈l,Vld x)->oroL l a=some o->a∣o/\∀x∈l,rootN x.1 x.2.1∣o
 |[],a,o,_,h=>by
   injection h with h
   subst h
   exact⟨Nat.dvd_refl _,λx hx=>by cases hx⟩
 |(k,n,r)::t,a,o,hv,h=>by
   rw[oroL] at h
   split at h
   ·cases h
   ·obtain⟨h1,h2⟩:=oroL_dvd t _ o (λy hy=>hv y (List.mem_cons_of_mem _ hy)) h
    have hx:=hv (k,n,r) (List.mem_cons_self ..)
    have hm:1<=rootN k n:=by
     have h2:(1:Int)<=n:=hx.2.2.1
     unfold rootN
     split<;>omega
    have hg:1<=Nat.gcd a (rootN k n):=Nat.gcd_pos_of_pos_right _ hm
    refine⟨Nat.dvd_trans ⟨_,rfl⟩ h1,λx hx=>?_⟩
    rcases List.mem_cons.1 hx with rfl|hx
    ·refine Nat.dvd_trans ?_ h1
     show rootN k n∣a*(rootN k n/Nat.gcd a (rootN k n))
     obtain⟨c,hc⟩:=Nat.gcd_dvd_left a (rootN k n)
     obtain⟨d,hd⟩:=Nat.gcd_dvd_right a (rootN k n)
     have e:rootN k n/Nat.gcd a (rootN k n)=d:=by
      have:rootN k n/Nat.gcd a (rootN k n)=Nat.gcd a (rootN k n)*d/Nat.gcd a (rootN k n):=by rw[<-hd]
      rw[this]
      exact Nat.mul_div_cancel_left d hg
     rw[e]
     generalize Nat.gcd a (rootN k n)=g at*
     generalize rootN k n=m at*
     exact⟨c,by rw[hc,hd];grind⟩
    ·exact h2 x hx
theorem ordR_dvd{kind n r:Int}{q:Fo}{o:Nat}(h:ordR kind n r q=(o,0)):∀x∈(kind,n,r)::q.flat,rootN x.1 x.2.1∣o:=by
 unfold ordR at h
 by_cases h0:checkE kind n r q n=0
 ·rw[if_neg (by simp[h0])] at h
  have hv:=(check_valid h0).1
  rcases h2:oroL ((kind,n,r)::q.flat) 1 with _|o2
  ·rw[h2] at h
   exact absurd (congrArg Prod.snd h) (show ¬(28:Int)=0 by decide)
  ·rw[h2] at h
   have:o2=o:=congrArg Prod.fst h
   subst this
   exact(oroL_dvd _ 1 _ hv h2).2
 ·rw[if_pos h0] at h
  exact absurd (congrArg Prod.snd h) h0
def InQ(Q:Nat)(x:Nat->Int):Prop:=∀i,0<=x i/\x i<Q
end Go.Proofs.Yteaimnemobnknaa
