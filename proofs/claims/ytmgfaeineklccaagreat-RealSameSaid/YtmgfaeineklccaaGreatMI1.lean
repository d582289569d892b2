/- Layer 21: sizes, the conjugate, the whole of a half. -/
import Derived.Test.YtmgfaeineklccaaGreatX0
import Derived.Test.YtmgfaeineklccaaGreatMQ4
set_option maxRecDepth 100000
set_option linter.unusedSimpArgs false
set_option linter.unusedVariables false
set_option maxHeartbeats 4000000
namespace Go.Proofs.YtmgfaeineklccaaGreat
open Go.RowKit Go.Lib
def wantsI(n:Int):Int:=if n<1\/16384<n then 0 else if n%2=0 then n/2 else n
theorem wants_bad{n:Int}(h:n<1\/16384<n):wantsI n=0:=by unfold wantsI;rw[if_pos h]
theorem wants_pos{n:Int}(h1:1<=n)(h2:n<=16384):1<=wantsI n/\wantsI n<=16384:=by unfold wantsI;rw[if_neg (by omega)];split<;>omega
theorem HWants_any(n:Int)(w:World):Calls Tryz.prog 37 #[.int .i64 n] w λz w'=>z=.returned (.int .i64 (wantsI n))/\w'=w:=by
 obtain⟨v,hv⟩:∃v,v=wantsI n:=⟨_,rfl⟩
 rw[<-hv]
 have HV:=aZ hv
 clear hv
 by_cases h1:n<1
 ·obtain rfl:v=0:=HV.out.trans (wants_bad (.inl h1))
  clear HV
  go_enter Tryz.func37,Tryz.ntmps37
  go_wp2
  go_ret
  exact⟨rfl,rfl⟩
 ·by_cases h2:16384<n
  ·obtain rfl:v=0:=HV.out.trans (wants_bad (.inr h2))
   clear HV
   go_enter Tryz.func37,Tryz.ntmps37
   go_wp2
   go_ret
   exact⟨rfl,rfl⟩
  ·obtain⟨k,rfl⟩:∃k:Nat,n=k:=⟨n.toNat,by omega⟩
   have hk:Hid (1<=k/\k<=16384):=aZ (by omega)
   have hv:=HV.out
   unfold wantsI at hv
   rw[if_neg (by omega)] at hv
   have r1:Int.tmod (k:Int) 2=((k%2:Nat):Int):=by rw[Int.tmod_eq_emod_of_nonneg (by omega)];rfl
   have r2:Int.tdiv (k:Int) 2=((k/2:Nat):Int):=by rw[Int.tdiv_eq_ediv_of_nonneg (by omega)];rfl
   have r3:Hid (k/2<=16384):=aZ (by omega)
   clear HV
   by_cases h3:k%2=0
   ·rw[if_pos (by omega),show(k:Int)/2=((k/2:Nat):Int) by omega] at hv
    subst hv
    have HM:=aZ h3
    go_enter Tryz.func37,Tryz.ntmps37
    go_wp2
    all_goals first|(go_ret;exact⟨rfl,rfl⟩)|skip
   ·rw[if_neg (by omega)] at hv
    subst hv
    have HM:=aZ h3
    go_enter Tryz.func37,Tryz.ntmps37
    go_wp2
    all_goals first|(go_ret;exact⟨rfl,rfl⟩)|skip
theorem refHWants_any(n:Int)(w:World):Calls Tryz.prog 38 #[.int .i64 n] w λz w'=>z=.returned (.int .i64 (wantsI n))/\w'=w:=by
 obtain⟨v,hv⟩:∃v,v=wantsI n:=⟨_,rfl⟩
 rw[<-hv]
 have HV:=aZ hv
 clear hv
 by_cases h1:n<1
 ·obtain rfl:v=0:=HV.out.trans (wants_bad (.inl h1))
  clear HV
  go_enter Tryz.func38,Tryz.ntmps38
  go_wp2
  go_ret
  exact⟨rfl,rfl⟩
 ·by_cases h2:16384<n
  ·obtain rfl:v=0:=HV.out.trans (wants_bad (.inr h2))
   clear HV
   go_enter Tryz.func38,Tryz.ntmps38
   go_wp2
   go_ret
   exact⟨rfl,rfl⟩
  ·obtain⟨k,rfl⟩:∃k:Nat,n=k:=⟨n.toNat,by omega⟩
   have hk:Hid (1<=k/\k<=16384):=aZ (by omega)
   have hv:=HV.out
   unfold wantsI at hv
   rw[if_neg (by omega)] at hv
   have r1:Int.tmod (k:Int) 2=((k%2:Nat):Int):=by rw[Int.tmod_eq_emod_of_nonneg (by omega)];rfl
   have r2:Int.tdiv (k:Int) 2=((k/2:Nat):Int):=by rw[Int.tdiv_eq_ediv_of_nonneg (by omega)];rfl
   have r3:Hid (k/2<=16384):=aZ (by omega)
   clear HV
   by_cases h3:k%2=0
   ·rw[if_pos (by omega),show(k:Int)/2=((k/2:Nat):Int) by omega] at hv
    subst hv
    have HM:=aZ h3
    go_enter Tryz.func38,Tryz.ntmps38
    go_wp2
    all_goals first|(go_ret;exact⟨rfl,rfl⟩)|skip
   ·rw[if_neg (by omega)] at hv
    subst hv
    have HM:=aZ h3
    go_enter Tryz.func38,Tryz.ntmps38
    go_wp2
    all_goals first|(go_ret;exact⟨rfl,rfl⟩)|skip
def negX(x:Nat):Nat:=nz (x ^^^ 9223372036854775808)
def cconj(a:Cx):Cx:=(a.1,negX a.2)
theorem isN_neg(x:Nat):isN (x ^^^ 9223372036854775808)=isN x:=by
 have h:(x ^^^ 9223372036854775808)%9223372036854775808=x%9223372036854775808:=by
  have:=@Nat.xor_mod_two_pow x 9223372036854775808 63
  rw[show(2:Nat)^63=9223372036854775808 by decide] at this
  rw[this,Nat.mod_self,Nat.xor_zero]
 rw[<-isN_mod,h,isN_mod]
theorem nz_neg(x:Nat):nz (x ^^^ 9223372036854775808)=negX (nz x):=by
 unfold negX
 cases e:isN x
 ·rw[nz_of e]
 ·rw[nz_eq,isN_neg,e,nz_eq x,e]
  kernel_rfl
theorem neg_lt(x:Fin 18446744073709551616):(x:Nat) ^^^ 9223372036854775808<18446744073709551616:=by
 have:=@Nat.xor_lt_two_pow x 9223372036854775808 64 x.isLt (by decide)
 exact this
def negF(x:Fin 18446744073709551616):Fin 18446744073709551616:=⟨(x:Nat) ^^^ 9223372036854775808,neg_lt x⟩
theorem nC_conj(u:Rx):nC (u.1,negF u.2)=cconj (nC u):=by unfold nC cconj negF;simp only[nz_neg]
theorem unary_negF(x:Fin 18446744073709551616):Op.unary .neg (.float .f64 (x:Nat))=pure (.float .f64 ((negF x:Fin 18446744073709551616):Nat)):=rfl
theorem Conj_any(u:Rx)(w:World):Calls Tryz.prog 131 #[cV u] w λz w'=>z=.returned (cV (u.1,negF u.2))/\Below w.heap.size w w':=by
 have hn:=unary_negF u.2
 go_enter Tryz.func131,Tryz.ntmps131
 go_wp2
 exact bodyPost_ret (v:=cV (u.1,negF u.2)) (by simp[results,Tryz.results131,go_sem]) rfl ⟨rfl,((Below.refl _ w).alloc (Nat.le_refl _) _).alloc (by simp) _⟩
theorem RowC.setRe{w:World}{b n:Nat}{f:Nat->Cx}(h:RowC w b n f){j:Nat}(hj:j<n)(x:Fin 18446744073709551616):RowC (w.setCell ⟨b,j*2,none⟩ (.float .f64 x)) b n (updT f j (nz x,(f j).2)):=λi hi=>by
 obtain⟨v,h1,h2,h3,h4,h5⟩:=h i hi
 have ne:∀{x y:Nat},x≠y->(⟨b,x,none⟩:Addr)≠⟨b,y,none⟩:=λh e=>h (congrArg Addr.off e)
 unfold updT
 by_cases e:i=j
 ·subst e
  refine⟨(x,v.2),World.cell?_setCell_same _ _ _ h1,?_,by simp only[World.frozen?_setCell];exact h3,by simp only[World.frozen?_setCell];exact h4,by rw[if_pos rfl,<-h5];rfl⟩
  rw[World.cell?_setCell_other _ _ _ _ (ne (by omega))]
  exact h2
 ·refine⟨v,?_,?_,by simp only[World.frozen?_setCell];exact h3,by simp only[World.frozen?_setCell];exact h4,by rw[if_neg e];exact h5⟩
  ·rw[World.cell?_setCell_other _ _ _ _ (ne (by omega))];exact h1
  ·rw[World.cell?_setCell_other _ _ _ _ (ne (by omega))];exact h2
theorem RowC.setIm{w:World}{b n:Nat}{f:Nat->Cx}(h:RowC w b n f){j:Nat}(hj:j<n)(x:Fin 18446744073709551616):RowC (w.setCell ⟨b,j*2+1,none⟩ (.float .f64 x)) b n (updT f j ((f j).1,nz x)):=λi hi=>by
 obtain⟨v,h1,h2,h3,h4,h5⟩:=h i hi
 have ne:∀{x y:Nat},x≠y->(⟨b,x,none⟩:Addr)≠⟨b,y,none⟩:=λh e=>h (congrArg Addr.off e)
 unfold updT
 by_cases e:i=j
 ·subst e
  refine⟨(v.1,x),?_,World.cell?_setCell_same _ _ _ h2,by simp only[World.frozen?_setCell];exact h3,by simp only[World.frozen?_setCell];exact h4,by rw[if_pos rfl,<-h5];rfl⟩
  rw[World.cell?_setCell_other _ _ _ _ (ne (by omega))]
  exact h1
 ·refine⟨v,?_,?_,by simp only[World.frozen?_setCell];exact h3,by simp only[World.frozen?_setCell];exact h4,by rw[if_neg e];exact h5⟩
  ·rw[World.cell?_setCell_other _ _ _ _ (ne (by omega))];exact h1
  ·rw[World.cell?_setCell_other _ _ _ _ (ne (by omega))];exact h2
def wholeC(h:Nat->Cx)(n:Nat):Nat->Cx:=λj=>if j=0 then((h 0).1,0) else if 2*j<n then h j else if 2*j=n then((h j).1,0) else cconj (h (n-j))
def whP(h:Nat->Cx)(n j:Nat):Nat->Cx:=λi=>if i<j\/n-j<i then wholeC h n i else(0,0)
theorem whP_start(h:Nat->Cx)(n:Nat)(i:Nat)(hi:i<n):updT (λ_=>(0,0)) 0 ((h 0).1,0) i=whP h n 1 i:=by
 unfold updT whP
 by_cases e:i=0
 ·rw[if_pos e,if_pos (by omega),e];rfl
 ·rw[if_neg e,if_neg (by omega)]
theorem whP_next(h:Nat->Cx)(n j:Nat)(h1:1<=j)(h2:2*j<n)(i:Nat)(hi:i<n):updT (updT (whP h n j) j (h j)) (n-j) (cconj (h j)) i=whP h n (j+1) i:=by
 unfold updT whP
 by_cases e:i=n-j
 ·rw[if_pos e,if_pos (by omega),e]
  unfold wholeC
  rw[if_neg (by omega),if_neg (by omega),if_neg (by omega),show n-(n-j)=j by omega]
 ·rw[if_neg e]
  by_cases e1:i=j
  ·rw[if_pos e1,if_pos (by omega),e1]
   unfold wholeC
   rw[if_neg (by omega),if_pos h2]
  ·rw[if_neg e1]
   by_cases e2:i<j\/n-j<i
   ·rw[if_pos e2,if_pos (by omega)]
   ·rw[if_neg e2,if_neg (by omega)]
theorem whP_odd(h:Nat->Cx)(n j:Nat)(h1:1<=j)(h2:n<=2*j)(h3:2*j<=n+1)(h4:n%2=1)(i:Nat)(hi:i<n):whP h n j i=wholeC h n i:=by
 unfold whP
 rw[if_pos (by omega)]
theorem whP_even(h:Nat->Cx)(n j:Nat)(h1:1<=j)(h2:n<=2*j)(h3:2*j<=n+1)(h4:n%2=0)(i:Nat)(hi:i<n):updT (whP h n j) (n/2) ((h (n/2)).1,0) i=wholeC h n i:=by
 unfold updT
 by_cases e:i=n/2
 ·rw[if_pos e,e]
  unfold wholeC
  rw[if_neg (by omega),if_neg (by omega),if_pos (by omega)]
 ·rw[if_neg e]
  unfold whP
  rw[if_pos (by omega)]
theorem wrap_next(j:Nat)(h:j+1<=32768):wrap64 ((j:Int)+1)=((j+1:Nat):Int):=by unfold wrap64;omega
theorem keepPut{w:World}{b g k j:Nat}{u v:Rx}(h:b≠g)(hS:w.cell? ⟨b,k,none⟩=some (.float .f64 v.1)/\w.cell? ⟨b,k+1,none⟩=some (.float .f64 v.2)):(putC w g j u).cell? ⟨b,k,none⟩=some (.float .f64 v.1)/\(putC w g j u).cell? ⟨b,k+1,none⟩=some (.float .f64 v.2):=by
 have ne:∀{x y:Nat},(⟨g,y,none⟩:Addr)≠⟨b,x,none⟩:=λe=>h (congrArg Addr.block e).symm
 unfold putC
 exact⟨by rw[World.cell?_setCell_other _ _ _ _ ne,World.cell?_setCell_other _ _ _ _ ne];exact hS.1,by rw[World.cell?_setCell_other _ _ _ _ ne,World.cell?_setCell_other _ _ _ _ ne];exact hS.2⟩
theorem whole_any(A:Option Addr)(n l c:Nat)(h:Nat->Cx)(w:World)(hA:CsAt w A l h)(hl:l=n/2+1)(n1:1<=n)(n2:n<=16384):
  Calls Tryz.prog 91 #[.slice A l c,.int .i64 n] w λz w'=>∃g,z=.returned (.slice (some ⟨g,0,none⟩) n n)/\w.heap.size<=g/\g<w'.heap.size/\RowC w' g n (wholeC h n)/\Below w.heap.size w w':=by
 have HA:=aZ hA
 have hmk:=mk_C n (by omega) w
 obtain⟨b,o,u,rfl,c0,c1,hu⟩:=hA 0 (by omega)
 have HU:=aZ hu
 have HL:=aZ hl
 have HN:=aZ n1
 have HN2:=aZ n2
 have l0:(0:Int)<l:=by omega
 have k0:(0:Int)<n:=by omega
 rw[Nat.zero_mul,Nat.add_zero] at c0 c1
 obtain⟨W,hW⟩:∃W,W=w.alloc (.cells (zsC n) 52):=⟨_,rfl⟩
 rw[<-hW] at hmk
 have hb:Below w.heap.size w W:=by rw[hW];exact(Below.refl _ w).alloc (Nat.le_refl _) _
 have hr:RowC W w.heap.size n (λ_=>(0,0)):=by rw[hW];exact zs_rowC n w _
 have hs:w.heap.size<W.heap.size:=by rw[hW];simp
 obtain⟨g,hg⟩:∃g,g=w.heap.size:=⟨_,rfl⟩
 have c0':=c0
 have c0:=keep_cell hb c0
 rw[<-hg] at hmk hr hs
 obtain⟨v,v0,v1,v2,v3,v4⟩:=hr 0 (by omega)
 have hR:=hr.setRe (j:=0) (by omega) u.1
 rw[Nat.zero_mul] at hR v0 v2
 obtain⟨W2,hW2⟩:∃W2,W2=W.setCell ⟨g,0,none⟩ (.float .f64 u.1):=⟨_,rfl⟩
 rw[<-hW2] at hR
 have hb2:Below w.heap.size w W2:=by rw[hW2];exact hb.setCell (p:=⟨g,0,none⟩) (by show _<=g;omega) _
 have hs2:g<W2.heap.size:=by rw[hW2];simpa using hs
 have HR:=aZ (hR.congr (λi hi=>(congrArg (λq=>updT (λ_=>((0:Nat),(0:Nat))) 0 (q,0) i) (congrArg Prod.fst hu)).trans (whP_start h n i hi)))
 have HB:=aZ hb2
 have HG:=aZ hs2
 have HGW:=aZ hg
 clear hW hr hR hs hu hA hl n1 n2 hb hb2 hs2 hg v1 v3 v4 c1
 go_enter Tryz.func91,Tryz.ntmps91
 go_wp2
 rw[<-hW2]
 clear hW2 v0 v2 hmk
 go_loopw [6] (λvi wr=>∃j:Nat,1<=j/\2*j<=n+1/\vi=.int .i64 j/\Hid (RowC wr g n (whP h n j))/\Hid (Below w.heap.size w wr)/\Hid (g<wr.heap.size)) (λvi _=>n-(intOf vi).toNat)
 case atStart=>exact⟨1,by omega,by have:=HN.out;omega,rfl,HR,HB,HG⟩
 case round=>
  obtain⟨j,j1,j2,rfl,hr,hb,hs⟩:=hrel
  have hj2:Hid (j<=16384):=aZ (by have:=HN2.out;omega)
  have hj9:Hid (j+1<=32768):=aZ (by have:=HN2.out;omega)
  by_cases hlt:2*j<n
  ·have hm3:n-(j+1)<n-j/\2*(j+1)<=n+1:=by omega
   have HM3:=aZ hm3
   clear hm3
   have hjl:j<l:=by have:=HL.out;omega
   obtain⟨b',o',v,e',d0,d1,hv⟩:=HA.out.keep hb.out j hjl
   simp only[Option.some.injEq,Addr.mk.injEq,and_true] at e'
   obtain⟨rfl,rfl⟩:=e'
   have HV:=aZ hv
   clear hv
   obtain⟨m,hm⟩:∃m,m=n-j:=⟨_,rfl⟩
   have hjn:j<n:=by omega
   have hmn:m<n:=by omega
   have hmj:m≠j:=by omega
   obtain⟨d,hd⟩:∃d,d=2*j:=⟨_,rfl⟩
   have hd0:wrap64 (2*(j:Int))=(d:Int):=by rw[show 2*(j:Int)=(d:Int) by omega];exact wrap64_nat d (Nat.lt_of_le_of_lt (show d<=32768 by have:=hj2.out;omega) (by decide))
   have hd1:IntKind.i64.wrap (2*(j:Int))=(d:Int):=by rw[show 2*(j:Int)=(d:Int) by omega];exact wrapI_nat d (Nat.lt_of_le_of_lt (show d<=32768 by have:=hj2.out;omega) (by decide))
   have hki:(d:Int)<n:=by omega
   have hkl:(j:Int)<l:=by omega
   have hkn:(j:Int)<n:=by omega
   have hkm:(m:Int)<n:=by omega
   have hw0:wrap64 ((n:Int)-j)=(m:Int):=by rw[show(n:Int)-j=(m:Int) by omega];exact wrap64_nat m (Nat.lt_of_lt_of_le hmn (Nat.le_trans HN2.out (by decide)))
   have hw1:IntKind.i64.wrap ((n:Int)-j)=(m:Int):=by rw[show(n:Int)-j=(m:Int) by omega];exact wrapI_nat m (Nat.lt_of_lt_of_le hmn (Nat.le_trans HN2.out (by decide)))
   have hbg:b≠g:=by have:=World.block_lt_of_cell? _ _ c0';have:=HGW.out;simp only at*;omega
   have HM:=aZ hm
   have HLT:=aZ hlt
   clear hm hlt hd
   go_upto_region 6 with(fail)
   refine wp_region_T (λw''=>w''.cell? ⟨b,o+j*2,none⟩=some (.float .f64 v.1)/\w''.cell? ⟨b,o+j*2+1,none⟩=some (.float .f64 v.2)) 17 ⟨d0,d1⟩ (λhS0=>?_)
   refine Takes.intro [0,1,2,3,4,5,6,7,8,9,10,11,12,13] ?_
   repeat(refine Takes.go (v:=?_) hS0 ?_;try simp only[nrm,Act.put])
   refine Takes.nil ?_
   refine wpAnyS_1 14 (λK hK=>?_)
   go_simp
   refine(Conj_any v _).mono ?_
   rintro z w2 ⟨rfl,hb2⟩
   have HB2:Hid (Below wr.heap.size wr w2):=aZ ((Below.refl _ wr).drew.trans hb2)
   have hS1:w2.cell? ⟨b,o+j*2,none⟩=some (.float .f64 v.1)/\w2.cell? ⟨b,o+j*2+1,none⟩=some (.float .f64 v.2):=⟨keep_cell HB2.out d0,keep_cell HB2.out d1⟩
   have HR2:=aZ (hr.out.keep HB2.out)
   obtain⟨x,x0,x1,x2,x3,-⟩:=HR2.out j hjn
   clear hb2
   refine hK.out _ _ (λ_=>hS1) ?_
   clear hK K
   try simp only[nrm,Act.put]
   refine Takes.intro [15] ?_
   repeat(refine Takes.go (v:=?_) hS1 ?_;try simp only[nrm,Act.put])
   refine Takes.nil ?_
   refine wpAnyS_1 16 (λK hK=>?_)
   go_simp
   have hS2:(putC w2 g j v).cell? ⟨b,o+j*2,none⟩=some (.float .f64 v.1)/\(putC w2 g j v).cell? ⟨b,o+j*2+1,none⟩=some (.float .f64 v.2):=keepPut hbg hS1
   refine hK.out _ _ (λ_=>hS2) ?_
   clear hK K
   try simp only[nrm,Act.put]
   refine wpAnyS_fin 2 17 ?_
   simp only[nrd]
   obtain⟨W3,hW3⟩:∃W3,W3=putC w2 g j v:=⟨_,rfl⟩
   have hW3':(w2.setCell ⟨g,j*2,none⟩ (.float .f64 v.1)).setCell ⟨g,j*2+1,none⟩ (.float .f64 v.2)=W3:=hW3.symm
   have hr3:RowC W3 g n (updT (whP h n j) j (nC v)):=by rw[hW3];exact HR2.out.set hjn v
   obtain⟨y,y0,y1,y2,y3,-⟩:=hr3 m hmn
   have HR3:=aZ (hr3.set hmn (v.1,negF v.2))
   have hgw:w.heap.size<=g:=by have:=HGW.out;omega
   have hb3:Below w.heap.size w W3:=by rw[hW3];exact((hb.out.trans (HB2.out.mono hb.out.size)).setCell (p:=⟨g,_,none⟩) hgw _).setCell (p:=⟨g,_,none⟩) hgw _
   have hs3:g<W3.heap.size:=by rw[hW3];have:=HB2.out.size;have:=hs.out;unfold putC;simp;omega
   have HB3:=aZ (And.intro hb3 hs3)
   have HJ:=aZ (And.intro j1 j2)
   have HJW:=aZ (wrap_next j hj9.out)
   rw[hW3']
   clear hS0 hS1 hS2 hW3 hW3' hr3 hb3 hs3 x0 x1 x2 x3 d0 d1 j1 j2
   go_wp2
   refine⟨⟨j+1,?_,?_,?_,?_,?_,?_⟩,?_⟩
   ·exact Nat.le_add_left 1 j
   ·exact HM3.out.2
   ·exact congrArg (Value.int .i64) HJW.out
   ·refine aZ (HR3.out.congr (λi hi=>?_))
    have e:=whP_next h n j HJ.out.1 HLT.out i hi
    rw[<-HV.out,<-HM.out,<-nC_conj] at e
    exact e
   ·exact aZ ((HB3.out.1.setCell (p:=⟨g,_,none⟩) hgw _).setCell (p:=⟨g,_,none⟩) hgw _)
   ·refine aZ ?_
    rw[World.size_setCell,World.size_setCell]
    exact HB3.out.2
   ·rw[HJW.out]
    exact HM3.out.1
  ·have HR2:=aZ hr.out
   obtain⟨q,hq⟩:∃q,q=n/2:=⟨_,rfl⟩
   obtain⟨d,hd⟩:∃d,d=2*j:=⟨_,rfl⟩
   have hd0:wrap64 (2*(j:Int))=(d:Int):=by rw[show 2*(j:Int)=(d:Int) by omega];exact wrap64_nat d (Nat.lt_of_le_of_lt (show d<=32768 by have:=hj2.out;omega) (by decide))
   have hd1:IntKind.i64.wrap (2*(j:Int))=(d:Int):=by rw[show 2*(j:Int)=(d:Int) by omega];exact wrapI_nat d (Nat.lt_of_le_of_lt (show d<=32768 by have:=hj2.out;omega) (by decide))
   have hki:¬(d:Int)<n:=by omega
   have hq0:wrap64 ((n:Int)/2)=(q:Int):=by rw[show(n:Int)/2=(q:Int) by omega];exact wrap64_nat q (Nat.lt_of_le_of_lt (show q<=32768 by have:=HN2.out;omega) (by decide))
   have hq1:IntKind.i64.wrap ((n:Int)/2)=(q:Int):=by rw[show(n:Int)/2=(q:Int) by omega];exact wrapI_nat q (Nat.lt_of_le_of_lt (show q<=32768 by have:=HN2.out;omega) (by decide))
   have hql:q<l:=by have:=HL.out;omega
   have hqn:q<n:=by have:=HN.out;omega
   have HQ:=aZ hq
   have HLT:=aZ hlt
   have HJ:=aZ (And.intro j1 j2)
   clear hlt hd hq hr
   by_cases hp:n%2=0
   ·have hpi:(n:Int)%2=0:=by omega
    have HP:=aZ hp
    obtain⟨b',o',v,e',d0,d1,hv⟩:=HA.out.keep hb.out q hql
    simp only[Option.some.injEq,Addr.mk.injEq,and_true] at e'
    obtain⟨rfl,rfl⟩:=e'
    have HV:=aZ hv
    obtain⟨x,x0,x1,x2,x3,-⟩:=HR2.out q hqn
    have hkl:(q:Int)<l:=by omega
    have hkn:(q:Int)<n:=by omega
    have HR3:=aZ (HR2.out.set hqn (v.1,0))
    clear hv hp j1 j2
    go_wp2
    go_ret
    refine⟨g,rfl,by have:=HGW.out;omega,?_,HR3.out.congr (λi hi=>?_),(hb.out.setCell (p:=⟨g,_,none⟩) (by show _<=g;have:=HGW.out;omega) _).setCell (p:=⟨g,_,none⟩) (by show _<=g;have:=HGW.out;omega) _⟩
    ·simpa using hs.out
    ·have:=whP_even h n j HJ.out.1 (by have:=HLT.out;omega) HJ.out.2 HP.out i hi
     rw[<-HQ.out,<-HV.out] at this
     exact this
   ·have hpi:(n:Int)%2=1:=by omega
    have HP:=aZ hp
    clear hp j1 j2
    go_wp2
    go_ret
    exact⟨g,rfl,by have:=HGW.out;omega,hs.out,HR2.out.congr (λi hi=>whP_odd h n j HJ.out.1 (by have:=HLT.out;omega) HJ.out.2 (by have:=HP.out;omega) i hi),hb.out⟩
def chalf(a:Cx):Cx:=(fD a.1 4611686018427387904,fD a.2 4611686018427387904)
def cturn1(a:Cx):Cx:=(negX a.2,a.1)
def cturn3(a:Cx):Cx:=(a.2,negX a.1)
theorem nz_two:nz 4611686018427387904=4611686018427387904:=by kernel_rfl
theorem half_any(a:Rx)(w:World):Calls Tryz.prog 132 #[cV a] w λz w'=>(∃r,z=.returned (cV r)/\nC r=chalf (nC a))/\Below w.heap.size w w':=by
 have h4:=@run_fquoN Tryz.prog
 go_enter Tryz.func132,Tryz.ntmps132
 go_wp2
 generalize e0:fres Ieee.double.div a.1 4611686018427387904 _=q0
 generalize e1:fres Ieee.double.div a.2 4611686018427387904 _=q1
 have n0:nz q0=fN Ieee.double.div (nz a.1) (nz 4611686018427387904):=by rw[<-e0];exact nz_fres good_div _ _ _
 have l0:q0<18446744073709551616:=by rw[<-e0];exact fres_lt good_div _ _ _
 have n1:nz q1=fN Ieee.double.div (nz a.2) (nz 4611686018427387904):=by rw[<-e1];exact nz_fres good_div _ _ _
 have l1:q1<18446744073709551616:=by rw[<-e1];exact fres_lt good_div _ _ _
 clear e0 e1
 rw[nz_two] at n0 n1
 exact bodyPost_ret (v:=cV (⟨q0,l0⟩,⟨q1,l1⟩)) (by simp[results,Tryz.results132,go_sem]) rfl ⟨⟨(⟨q0,l0⟩,⟨q1,l1⟩),rfl,by simp only[nC,chalf,fD,n0,n1]⟩,((below_drewN (((Below.refl _ w).alloc (Nat.le_refl _) _).alloc (by simp) _) _).setCell (p:=⟨_,_,_⟩) (by show w.heap.size<=w.heap.size+1;omega) _).setCell (p:=⟨_,_,_⟩) (by show w.heap.size<=w.heap.size+1;omega) _⟩
theorem Turn1_any(u:Rx)(w:World):Calls Tryz.prog 135 #[cV u,.int .i64 1] w λz w'=>z=.returned (cV (negF u.2,u.1))/\Below w.heap.size w w':=by
 have hn:=unary_negF u.2
 go_enter Tryz.func135,Tryz.ntmps135
 go_wp2
 exact bodyPost_ret (v:=cV (negF u.2,u.1)) (by simp[results,Tryz.results135,go_sem]) rfl ⟨rfl,((Below.refl _ w).alloc (Nat.le_refl _) _).alloc (by simp) _⟩
theorem Turn3_any(u:Rx)(w:World):Calls Tryz.prog 135 #[cV u,.int .i64 3] w λz w'=>z=.returned (cV (u.2,negF u.1))/\Below w.heap.size w w':=by
 have hn:=unary_negF u.1
 go_enter Tryz.func135,Tryz.ntmps135
 go_wp2
 exact bodyPost_ret (v:=cV (u.2,negF u.1)) (by simp[results,Tryz.results135,go_sem]) rfl ⟨rfl,((Below.refl _ w).alloc (Nat.le_refl _) _).alloc (by simp) _⟩
theorem nC_turn1(u:Rx):nC (negF u.2,u.1)=cturn1 (nC u):=by unfold nC cturn1 negF;simp only[nz_neg]
theorem nC_turn3(u:Rx):nC (u.2,negF u.1)=cturn3 (nC u):=by unfold nC cturn3 negF;simp only[nz_neg]
def hroot(j n:Int):Cx:=(nz (T.tuC (-j) n),nz (T.tuS (-j) n))
theorem root_any(j n:Int)(w:World)(j1:-65536<=j)(j2:j<=65536)(n1:1<=n)(n2:n<=65536):
  Calls Tryz.prog 136 #[.int .i64 j,.int .i64 n] w λz w'=>(∃r,z=.returned (cV r)/\nC r=hroot j n)/\Below w.heap.size w w':=by
 obtain⟨ht,hf1,hf2,-,-⟩:=T.turn_fn (-j) n n1 (Int.le_trans n2 (by decide))
 have HT:=aZ ht
 obtain⟨tc,htc⟩:∃tc:Fin 18446744073709551616,tc.val=T.tuC (-j) n:=⟨⟨_,hf1.1⟩,rfl⟩
 obtain⟨ts,hts⟩:∃ts:Fin 18446744073709551616,ts.val=T.tuS (-j) n:=⟨⟨_,hf2.1⟩,rfl⟩
 have HQ:Hid (nC (tc,ts)=hroot j n):=aZ (by unfold nC hroot;rw[htc,hts])
 rw[<-htc,<-hts] at HT
 obtain⟨i,hi⟩:∃i,i=-j:=⟨_,rfl⟩
 have hw0:wrap64 (-j)=i:=by rw[hi];unfold wrap64;omega
 have hw1:IntKind.i64.wrap (-j)=i:=by rw[hi,IntKind.wrap_i64];omega
 rw[<-hi] at HT
 clear ht hf1 hf2 htc hts hi j1 j2 n1 n2
 go_enter Tryz.func136,Tryz.ntmps136
 go_wp2_with fail
 refine(HT.out _).mono ?_
 rintro z w2 ⟨rfl,hb2⟩
 have HB2:=aZ (((Below.refl _ w).alloc (Nat.le_refl _) (.cells #[.float .f64 0,.float .f64 0] 52)).trans (hb2.mono (by simp)))
 have c0:=keep_cell hb2 (show(w.alloc (.cells #[.float .f64 0,.float .f64 0] 52)).cell? ⟨w.heap.size,0,none⟩=some (.float .f64 0) by rw[World.cell?_alloc_new];rfl)
 have c1:=keep_cell hb2 (show(w.alloc (.cells #[.float .f64 0,.float .f64 0] 52)).cell? ⟨w.heap.size,1,none⟩=some (.float .f64 0) by rw[World.cell?_alloc_new];rfl)
 have f0:=(World.frozen?_of_block (w:=w.alloc (.cells #[.float .f64 0,.float .f64 0] 52)) (a:=⟨w.heap.size,0,none⟩) (Below.block hb2 _ (by simp))).trans (World.frozen?_alloc_new _ _ _ _)
 have f1:=(World.frozen?_of_block (w:=w.alloc (.cells #[.float .f64 0,.float .f64 0] 52)) (a:=⟨w.heap.size,1,none⟩) (Below.block hb2 _ (by simp))).trans (World.frozen?_alloc_new _ _ _ _)
 clear hb2
 have e0:(w2.setCell ⟨w.heap.size,0,none⟩ (.float .f64 tc)).cell? ⟨w.heap.size,0,none⟩=some (.float .f64 tc):=World.cell?_setCell_same _ _ _ c0
 have e1:((w2.setCell ⟨w.heap.size,0,none⟩ (.float .f64 tc)).setCell ⟨w.heap.size,1,none⟩ (.float .f64 ts)).cell? ⟨w.heap.size,1,none⟩=some (.float .f64 ts):=World.cell?_setCell_same _ _ _ (u:=.float .f64 0) (by rw[World.cell?_setCell_other _ _ _ _ (λe=>by injection e;omega)];exact c1)
 go_wp2
 exact bodyPost_ret (v:=cV (tc,ts)) (by simp[results,Tryz.results136,go_sem,e0,e1]) rfl ⟨⟨(tc,ts),rfl,HQ.out⟩,(HB2.out.setCell (p:=⟨_,_,_⟩) (Nat.le_refl _) _).setCell (p:=⟨_,_,_⟩) (Nat.le_refl _) _⟩
def hmayE(n e:Int):Int:=if n<1\/16384<n then 3 else e
theorem hmay_any(kind N r:Int)(q:Fo)(n e:Int)(C:ChkC kind N r q (wantsI n) e)(A:Option Addr)(c:Nat)(w:World)(hk:Kids w A 0 q):
  Calls Tryz.prog 80 #[plV kind N r A q.len c,.int .i64 n] w λz w'=>z=.returned (.int .i64 (hmayE n e))/\Below w.heap.size w w':=by
 have HW:=aZ (HWants_any n)
 have HC:=aZ C
 obtain⟨W,hW⟩:∃W,W=w.alloc (.cells #[.int .i64 kind,.int .i64 N,.int .i64 r,.slice A q.len c] 27):=⟨_,rfl⟩
 have hb:Below w.heap.size w W:=by rw[hW];exact(Below.refl _ w).alloc (Nat.le_refl _) _
 obtain⟨p0,p1,p2,p3⟩:=PlBox.new w kind N r A q.len c 27
 rw[<-hW] at p0 p1 p2 p3
 have HB:=aZ hb
 have HK:=aZ (Kids.below hk hb)
 clear C hb hk
 by_cases h1:n<1\/16384<n
 ·rw[show hmayE n e=3 from if_pos h1]
  rw[wants_bad h1] at HW
  clear h1
  go_enter Tryz.func80,Tryz.ntmps80
  go_upto_region 1 with(fail)
  rw[<-hW]
  clear hW
  go_wp2_with fail
  refine(HW.out _).mono ?_
  rintro z w1 ⟨rfl,rfl⟩
  go_wp2
  go_ret
  exact⟨rfl,HB.out⟩
 ·rw[show hmayE n e=e from if_neg h1]
  have hw:=(wants_pos (n:=n) (by omega) (by omega)).1
  obtain⟨v,hv⟩:∃v,v=wantsI n:=⟨_,rfl⟩
  rw[<-hv] at hw HW HC
  have hv0:(v==0)=false:=by simp;omega
  have hv1:¬v=0:=by omega
  clear h1 hv
  go_enter Tryz.func80,Tryz.ntmps80
  go_upto_region 1 with(fail)
  rw[<-hW]
  clear hW
  go_wp2_with fail
  refine(HW.out _).mono ?_
  rintro z w1 ⟨rfl,rfl⟩
  go_wp2_with fail
  refine(HC.out _ A c HK.out).mono ?_
  rintro z w2 ⟨⟨a,rfl⟩,hb2⟩
  have HB2:=aZ (HB.out.trans (hb2.mono HB.out.size))
  clear hb2
  go_wp2
  go_ret
  exact⟨rfl,HB2.out⟩
abbrev W890:Nat:=8615386087159758848
theorem great_any(x:Nat)(w:World)(hx:x<18446744073709551616):
  Calls Tryz.prog 82 #[.float .f64 x] w λz w'=>z=.returned (.bool (!fitsB W890 x))/\w=w':=by
 have HX:=aZ hx
 clear hx
 go_enter Tryz.func82,Tryz.ntmps82
 go_wp2_with fail
 refine(absF_any x _ HX.out).mono ?_
 rintro z w' ⟨rfl,rfl⟩
 go_wp2
 go_ret
 exact⟨congrArg (λq=>Ending.returned (Value.bool q)) (Bool.not_or _ _).symm,rfl⟩
theorem great2_any(u:Rx)(w:World):
  Calls Tryz.prog 89 #[cV u] w λz w'=>z=.returned (.bool (!fitsC W890 (nC u)))/\Below w.heap.size w w':=by
 rw[fitsC_nC]
 unfold fitsC
 have HG1:=aZ (λw=>great_any u.1 w u.1.isLt)
 have HG2:=aZ (λw=>great_any u.2 w u.2.isLt)
 cases h1:fitsB W890 u.1
 ·rw[h1] at HG1
  go_enter Tryz.func89,Tryz.ntmps89
  go_wp2_with fail
  refine(HG1.out _).mono ?_
  rintro z w' ⟨rfl,rfl⟩
  go_wp2
  go_ret
  exact⟨rfl,(Below.refl _ _).alloc (Nat.le_refl _) _⟩
 ·rw[h1] at HG1
  go_enter Tryz.func89,Tryz.ntmps89
  go_wp2_with fail
  refine(HG1.out _).mono ?_
  rintro z w' ⟨rfl,rfl⟩
  go_wp2_with fail
  refine(HG2.out _).mono ?_
  rintro z w' ⟨rfl,rfl⟩
  go_wp2
  go_ret
  exact⟨by simp,(Below.refl _ _).alloc (Nat.le_refl _) _⟩
end Go.Proofs.YtmgfaeineklccaaGreat
