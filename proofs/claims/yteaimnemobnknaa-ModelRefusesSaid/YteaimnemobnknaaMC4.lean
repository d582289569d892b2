/- The document's Is, Padded, Wants, sized. -/
import Derived.Test.YteaimnemobnknaaX0
import Derived.Test.YteaimnemobnknaaZ3
import Derived.Test.YteaimnemobnknaaMC1
import Derived.Test.YteaimnemobnknaaMC2
import Derived.Deep.AppendLies
import Derived.WalkSmall
set_option maxRecDepth 100000
set_option maxHeartbeats 4000000
set_option linter.unusedSimpArgs false
set_option linter.unusedVariables false
namespace Go.Proofs.Yteaimnemobnknaa
open Go.RowKit Go.Lib
theorem priL_step(f d n:Nat):priL (f+1) d n=if d<=n/d then(if n%d=0 then false else priL f (d+1) n) else true:=by
 show(bif Nat.ble d (n/d) then(bif Nat.beq (n%d) 0 then false else priL f (d+1) n) else true)=_
 rw[bif_le,bif_eq]
theorem RIs_any(n:Int)(w:World)(hn:n<=4611686018427387904):Calls Try.prog 97 #[.int .i64 n] w λz w'=>z=.returned (.bool (primeB n.toNat))/\w=w':=by
 by_cases h2:n<2
 ·have e:primeB n.toNat=false:=by
    unfold primeB
    rw[bif_le,if_pos (by omega)]
  rw[e]
  go_enter Try.func97,Try.ntmps97
  go_wp2
  go_ret
  exact⟨rfl,rfl⟩
 ·obtain⟨m,rfl⟩:∃m:Nat,n=m:=⟨n.toNat,by omega⟩
  have e:primeB (m:Int).toNat=priL m 2 m:=by
   show primeB m=_
   unfold primeB
   rw[bif_le,if_neg (by omega)]
  rw[e]
  obtain⟨R,hR⟩:∃R,priL m 2 m=R:=⟨_,rfl⟩
  rw[hR]
  have HR:=aZ hR
  have HM:Hid (2<=m/\m<=4611686018427387904):=aZ (by omega)
  clear e hR
  go_enter Try.func97,Try.ntmps97
  go_wp2
  go_loop [3] (λvd=>∃f d:Nat,vd=.int .i64 d/\2<=d/\d<=m+1/\m<=d+f/\Hid (priL f d m=R)) (λvd=>m+1-(intOf vd).toNat)
  case atStart=>exact⟨m,2,rfl,by omega,by have:=HM.out;omega,by omega,HR⟩
  case round=>
   clear HR
   obtain⟨f,d,rfl,hd2,hdm,hf,hr⟩:=hrel
   have hm2:=HM.out.1
   have hm3:=HM.out.2
   have hq:(m:Int).tdiv d=((m/d:Nat):Int):=by rw[Int.tdiv_eq_ediv_of_nonneg (by omega)];omega
   have hqm:m/d<=m:=Nat.div_le_self _ _
   have hd0:((d:Int)==0)=false:=by rw[beq_eq_false_iff_ne];omega
   have hd1:¬(d:Int)=0:=by omega
   have hle:d<=m/d↔d*d<=m:=Nat.le_div_iff_mul_le (by omega)
   have HLE:=aZ hle
   obtain⟨Q,hQ⟩:∃Q,m/d=Q:=⟨_,rfl⟩
   have HQ:=aZ hQ
   rw[hQ] at hq hqm hle
   clear hle hQ
   by_cases hlt:d<=Q
   ·have hdd:d*d<=m:=HLE.out.1 (by rw[HQ.out];exact hlt)
    have hlti:(d:Int)<=(Q:Int):=by omega
    have hdlt:d<m:=by
     have h1:=HLE.out.1 (by rw[HQ.out];exact hlt)
     have:2*d<=d*d:=Nat.mul_le_mul_right d hd2
     omega
    obtain⟨f,rfl⟩:∃f',f=f'+1:=⟨f-1,by omega⟩
    have hro:=hr.out
    rw[priL_step,HQ.out,if_pos hlt] at hro
    have ht:(m:Int).tmod d=((m%d:Nat):Int):=by rw[Int.tmod_eq_emod_of_nonneg (by omega)];omega
    obtain⟨x,hx⟩:∃x,m%d=x:=⟨_,rfl⟩
    have hxl:x<d:=by rw[<-hx];exact Nat.mod_lt _ (by omega)
    rw[hx] at hro ht
    by_cases h0:x=0
    ·subst h0
     rw[if_pos rfl] at hro
     have HRF:=aZ hro
     clear hro hr HQ HLE hx
     have ht':(m:Int).tmod d=0:=ht
     clear ht
     go_wp2
     go_ret
     exact⟨by rw[<-HRF.out];rfl,rfl⟩
    ·rw[if_neg h0] at hro
     have h0i:((x:Int)==0)=false:=by rw[beq_eq_false_iff_ne];omega
     have HRF:=aZ hro
     clear hro hr HQ HLE hx
     go_wp2
     exact⟨⟨f,d+1,by go_num,by omega,by omega,by omega,HRF⟩,by simp[intOf];omega⟩
   ·have hlti:¬(d:Int)<=(Q:Int):=by omega
    have HRF:Hid (R=true):=aZ (by
     have:=hr.out
     rcases f with _|f
     ·exact this.symm
     ·rw[priL_step,HQ.out,if_neg hlt] at this
      exact this.symm)
    clear hr HQ HLE
    go_wp2
    go_ret
    exact⟨by rw[HRF.out];rfl,rfl⟩
theorem RPadded_ok(n:Nat)(h1:1<=n)(h2:n<=16384)(w:World):
  Calls Try.prog 103 #[.int .i64 n] w λz w'=>z=.returned (.tuple #[.int .i64 (padF n:Nat),.int .i64 0])/\w=w':=by
 have h0:¬(n:Int)<1:=by omega
 have h3:(n:Int)<=16384:=by omega
 have hP:=padF_spec n h1 h2
 have HR:Hid (padL 20 1 n=padF n):=aZ rfl
 have hR:=hP.2.2.2.2
 have hG:=hP.1
 generalize padF n=P at*
 clear hP
 go_enter Try.func103,Try.ntmps103
 go_wp2
 go_loop [4] (λvm=>∃f m:Nat,vm=.int .i64 m/\1<=m/\m<=65536/\Hid (padL f m n=P)) (λvm=>65536-(intOf vm).toNat)
 case atStart=>exact⟨20,1,rfl,by omega,by omega,HR⟩
 case round=>
  clear HR
  obtain⟨f,m,rfl,hm,hm2,hp⟩:=hrel
  by_cases hlt:m<2*n-1
  ·have hlti:¬2*(n:Int)-1<=(m:Int):=by omega
   obtain⟨f,rfl⟩:∃f',f=f'+1:=⟨f-1,by
    have:f≠0:=by
     rintro rfl
     have h1:m=P:=hp.out
     omega
    omega⟩
   have hpo:Hid (padL f (2*m) n=P):=aZ (by
    have:=hp.out
    rw[show padL (f+1) m n=if m<2*n-1 then padL f (2*m) n else m from rfl,if_pos hlt] at this
    exact this)
   clear hp
   go_wp2
   exact⟨⟨f,2*m,by go_num,by omega,by omega,hpo⟩,by simp[intOf];omega⟩
  ·have hlti:2*(n:Int)-1<=(m:Int):=by omega
   have HE:Hid (m=P):=aZ (by
    have:=hp.out
    rcases f with _|f
    ·exact this
    ·rw[show padL (f+1) m n=if m<2*n-1 then padL f (2*m) n else m from rfl,if_neg hlt] at this
     exact this)
   clear hp hlt
   go_wp2
   go_ret2
   exact⟨by rw[<-HE.out];rfl,rfl⟩
theorem pow4_iff(m:Nat)(hm:m<=32768):pow4 m=true↔∃e,2<=e/\m=2^e:=by
 constructor
 ·intro h
  obtain⟨e,he⟩:=pow4_pow h
  refine⟨e,?_,he⟩
  rcases e with _|_|e
  ·rw[he] at h;exact absurd h (by decide)
  ·rw[he] at h;exact absurd h (by decide)
  ·omega
 ·rintro⟨e,he,rfl⟩
  have:e<=15:=by
   rcases Nat.lt_or_ge 15 e with h|h
   ·have:=Nat.pow_le_pow_right (show 0<2 by omega) (show 16<=e by omega)
    omega
   ·exact h
  have:e=2\/e=3\/e=4\/e=5\/e=6\/e=7\/e=8\/e=9\/e=10\/e=11\/e=12\/e=13\/e=14\/e=15:=by omega
  rcases this with rfl|rfl|rfl|rfl|rfl|rfl|rfl|rfl|rfl|rfl|rfl|rfl|rfl|rfl<;>decide
theorem pow4_end{e k m:Nat}(hk:k=2^e)(he:2<=e)(hor:e=2\/2^(e-1)<m)(hm:m<=k):(k=m->∃e,2<=e/\m=2^e)/\((∃e,2<=e/\m=2^e)->k=m):=by
 refine⟨λh=>⟨e,he,by rw[<-h,hk]⟩,?_⟩
 rintro⟨j,hj,rfl⟩
 have h1:j<=e:=by
  rcases Nat.lt_or_ge e j with h|h
  ·have:=Nat.pow_lt_pow_right (show 1<2 by omega) h
   omega
  ·exact h
 have h2:e<=j:=by
  rcases hor with h|h
  ·omega
  ·rcases Nat.lt_or_ge j e with h'|h'
   ·have:=Nat.pow_le_pow_right (show 0<2 by omega) (show j<=e-1 by omega)
    omega
   ·exact h'
 rw[hk,show e=j by omega]
theorem RWants_any(kind n r:Int)(A:Option Addr)(l c:Nat)(w:World)(h1:1<=n)(h2:n<=32768)(h4:kind=4->n<=16384):
  Calls Try.prog 76 #[plV kind n r A l c] w (WantsC w (wantsF kind n r)):=by
 have bs1:=bs_int1
 have bs2:=bs_int2
 by_cases k1:kind=1
 ·subst k1
  clear h4
  by_cases r1:r<1
  ·have e:wantsF 1 n r=[0,0]:=by unfold wantsF;rw[if_pos rfl,if_pos r1]
   rw[e]
   clear e
   go_enter Try.func76,Try.ntmps76
   go_wp2
   go_ret
   exact⟨⟨_,rfl,ints_two _ _ _ _ _ (by simp),λb o e=>by cases e;first|(simp;done)|exact HB.drew.size|omega⟩,((Below.refl _ w).alloc (Nat.le_refl _) _).alloc (by simp) _⟩
  ·have e:wantsF 1 n r=[r,n/r]:=by unfold wantsF;rw[if_pos rfl,if_neg r1]
   rw[e]
   clear e
   have hb:=Int.ediv_le_self r (show 0<=n by omega)
   have hb0:=Int.ediv_nonneg (show 0<=n by omega) (show 0<=r by omega)
   have ht:n.tdiv r=n/r:=Int.tdiv_eq_ediv_of_nonneg (by omega)
   have hr0:(r==0)=false:=by rw[beq_eq_false_iff_ne];omega
   have hr1:¬r=0:=by omega
   generalize n/r=q at*
   have hw:IntKind.i64.wrap q=q:=by rw[IntKind.wrap_i64];omega
   clear hb hb0
   go_enter Try.func76,Try.ntmps76
   go_upto_region 5 with(fail)
   obtain⟨W,hW⟩:∃W,W=w.alloc (.cells #[.int .i64 1,.int .i64 n,.int .i64 r,.slice A l c] 29):=⟨_,rfl⟩
   have HP:PlBox W w.heap.size 1 n r A l c:=by rw[hW];exact PlBox.new w 1 n r A l c 29
   have HB:Below w.heap.size w W:=by rw[hW];exact(Below.refl _ w).alloc (Nat.le_refl _) _
   rw[<-hW]
   clear hW
   refine wp_region_S (λw'=>w'.cell? ⟨w.heap.size,0,none⟩=some (.int .i64 1)/\w'.cell? ⟨w.heap.size,1,none⟩=some (.int .i64 n)/\w'.cell? ⟨w.heap.size,2,none⟩=some (.int .i64 r)/\w'.cell? ⟨w.heap.size,3,none⟩=some (.slice A l c)) 7 (by kernel_rfl) ?_
   have hS0:=(HP:PlBox W.drew w.heap.size 1 n r A l c)
   refine Takes.intro [0,1,2,3,4,5,6] ?_
   repeat(refine Takes.go (v:=?_) hS0 ?_;try simp only[nrm,Act.put])
   refine Takes.nil ?_
   refine wpAnyS_fin 2 7 ?_
   simp only[nrd]
   go_wp2
   go_ret
   exact⟨⟨_,rfl,ints_two _ _ _ _ _ (by simp),λb o e=>by cases e;first|(simp;done)|exact HB.drew.size|omega⟩,HB.drew.alloc HB.drew.size _⟩
 ·by_cases k3:kind=3
  ·subst k3
   clear h4 k1
   have e:wantsF 3 n r=[n-1]:=rfl
   rw[e]
   clear e
   go_enter Try.func76,Try.ntmps76
   go_wp2
   go_ret
   exact⟨⟨_,rfl,ints_one _ _ _ _ (by simp),λb o e=>by cases e;first|(simp;done)|exact HB.drew.size|omega⟩,((Below.refl _ w).alloc (Nat.le_refl _) _).alloc (by simp) _⟩
  ·by_cases k4:kind=4
   ·subst k4
    obtain⟨m,rfl⟩:∃m:Nat,n=m:=⟨n.toNat,by omega⟩
    have hP:=RPadded_ok m (by omega) (by have:=h4 rfl;omega)
    have e:wantsF 4 m r=[(padF m:Int)]:=rfl
    rw[e]
    generalize padF m=p at*
    have HP:=aZ hP
    clear hP e h4
    go_enter Try.func76,Try.ntmps76
    go_wp2_with fail
    refine(HP.out _).mono ?_
    rintro z w' ⟨rfl,rfl⟩
    go_wp2
    go_ret
    exact⟨⟨_,rfl,ints_one _ _ _ _ (by simp),λb o e=>by cases e;first|(simp;done)|exact HB.drew.size|omega⟩,((Below.refl _ w).alloc (Nat.le_refl _) _).alloc (by simp) _⟩
   ·have e:wantsF kind n r=[]:=by unfold wantsF;rw[if_neg k1,if_neg k3,if_neg k4]
    rw[e]
    clear e h4
    go_enter Try.func76,Try.ntmps76
    go_wp2
    go_ret
    exact⟨⟨none,rfl,IntsAt.nil _ _ _,λb o e=>by cases e⟩,(Below.refl _ w).alloc (Nat.le_refl _) _⟩
theorem sized_any(kind n r:Int)(A:Option Addr)(l c:Nat)(w:World)(h1:1<=n)(h2:n<=32768):
  Calls Try.prog 102 #[plV kind n r A l c] w (Ret w (.int .i64 (sizeE kind n))):=by
 have fin:∀t,Below w.heap.size w (w.alloc (.cells #[.int .i64 kind,.int .i64 n,.int .i64 r,.slice A l c] t)):=λt=>(Below.refl _ w).alloc (Nat.le_refl _) _
 have FIN:=aZ fin
 clear fin
 by_cases k0:kind=0
 ·subst k0
  by_cases hn:32<n
  ·have e:sizeE 0 n=22:=by unfold sizeE;rw[if_pos rfl,if_pos hn]
   rw[e];clear e
   go_enter Try.func102,Try.ntmps102
   go_wp2
   go_ret
   exact⟨rfl,FIN.out _⟩
  ·have e:sizeE 0 n=0:=by unfold sizeE;rw[if_pos rfl,if_neg hn]
   rw[e];clear e
   go_enter Try.func102,Try.ntmps102
   go_wp2
   go_ret
   exact⟨rfl,FIN.out _⟩
 ·by_cases k2:kind=2
  ·subst k2
   obtain⟨m,rfl⟩:∃m:Nat,n=m:=⟨n.toNat,by omega⟩
   have e:sizeE 2 m=if pow4 m=true then 0 else 24:=by unfold sizeE;rw[if_neg k0,if_pos rfl];rfl
   rw[e];clear e
   have hpw:=pow4_iff m (by omega)
   obtain⟨R,hR⟩:∃R,pow4 m=R:=⟨_,rfl⟩
   rw[hR] at hpw|-
   have HPW:=aZ hpw
   obtain⟨v,hv⟩:∃v:Int,(if R=true then 0 else 24)=v:=⟨_,rfl⟩
   rw[hv]
   have HV:=aZ hv
   clear hpw hR hv
   go_enter Try.func102,Try.ntmps102
   go_wp2
   have hP:=PlBox.new w 2 m r A l c 29
   have HB:=aZ (FIN.out 29)
   obtain⟨W,hW⟩:∃W,W=w.alloc (.cells #[.int .i64 2,.int .i64 m,.int .i64 r,.slice A l c] 29):=⟨_,rfl⟩
   rw[<-hW] at hP HB|-
   clear hW FIN
   obtain⟨p0,p1,p2,p3⟩:=hP
   go_loopw [3] (λvk wr=>∃e k:Nat,vk=.int .i64 k/\k=2^e/\2<=e/\k<=65536/\(e=2\/2^(e-1)<m)/\wr=W) (λvk _=>65536-(intOf vk).toNat)
   case atStart=>exact⟨2,4,rfl,rfl,by omega,by omega,.inl rfl,rfl⟩
   case round=>
    obtain⟨e,k,rfl,hk,he,hk6,hor,rfl⟩:=hrel
    by_cases hlt:k<m
    ·have hlti:(k:Int)<(m:Int):=by omega
     have HK:Hid (2*k=2^(e+1)/\(e+1=2\/2^(e+1-1)<m)):=aZ ⟨by rw[Nat.pow_succ,<-hk];omega,.inr (by rw[Nat.add_sub_cancel,<-hk];exact hlt)⟩
     have hk2:1<=k:=by rw[hk];exact Nat.pos_of_ne_zero (by simp)
     clear hk hor
     go_wp2
     exact⟨⟨e+1,2*k,by go_num,HK.out.1,by omega,by omega,HK.out.2,trivial⟩,by simp[intOf];omega⟩
    ·have hlti:¬(k:Int)<(m:Int):=by omega
     have hfin:=pow4_end hk he hor (by omega)
     by_cases hkm:k=m
     ·have HR:Hid (R=true):=aZ (HPW.out.2 (hfin.1 hkm))
      subst hkm
      clear hk hor hfin hlt HPW
      obtain rfl:v=0:=by rw[<-HV.out,HR.out,if_pos rfl]
      go_wp2
      go_ret
      exact⟨rfl,HB.out⟩
     ·have HR:Hid (R=false):=aZ (by
        cases hc:R
        ·rfl
        ·exact absurd (hfin.2 (HPW.out.1 hc)) hkm)
      have hkmi:((k:Int) != (m:Int))=true:=by simp;omega
      clear hk hor hfin hlt HPW hkm
      obtain rfl:v=24:=by rw[<-HV.out,HR.out,if_neg (by decide)]
      go_wp2
      go_ret
      exact⟨rfl,HB.out⟩
  ·by_cases k3:kind=3
   ·subst k3
    obtain⟨m,rfl⟩:∃m:Nat,n=m:=⟨n.toNat,by omega⟩
    have e:sizeE 3 m=if(m:Int)<3\/primeB m=false then 25 else 0:=by unfold sizeE;rw[if_neg k0,if_neg k2,if_pos rfl];rfl
    rw[e];clear e
    have hP:=λw=>RIs_any m w (by omega)
    rw[show(m:Int).toNat=m from rfl] at hP
    generalize primeB m=b at*
    have HP:=aZ hP
    clear hP
    cases b
    ·rw[if_pos (.inr rfl)]
     go_enter Try.func102,Try.ntmps102
     go_wp2_with fail
     refine(HP.out _).mono ?_
     rintro z w' ⟨rfl,rfl⟩
     go_wp2
     go_ret
     exact⟨rfl,FIN.out _⟩
    ·by_cases hn:(m:Int)<3
     ·rw[if_pos (.inl hn)]
      go_enter Try.func102,Try.ntmps102
      go_wp2_with fail
      refine(HP.out _).mono ?_
      rintro z w' ⟨rfl,rfl⟩
      go_wp2
      go_ret
      exact⟨rfl,FIN.out _⟩
     ·have e:(if(m:Int)<3\/true=false then(25:Int) else 0)=0:=by simp[hn]
      rw[e]
      clear e
      go_enter Try.func102,Try.ntmps102
      go_wp2_with fail
      refine(HP.out _).mono ?_
      rintro z w' ⟨rfl,rfl⟩
      go_wp2
      go_ret
      exact⟨rfl,FIN.out _⟩
   ·by_cases k4:kind=4
    ·subst k4
     have e:sizeE 4 n=if n<2\/16384<n then 3 else 0:=by unfold sizeE;rw[if_neg k0,if_neg k2,if_neg k3,if_pos rfl]
     rw[e];clear e
     by_cases hn:n<2
     ·rw[if_pos (.inl hn)]
      go_enter Try.func102,Try.ntmps102
      go_wp2
      go_ret
      exact⟨rfl,FIN.out _⟩
     ·by_cases hm:16384<n
      ·rw[if_pos (.inr hm)]
       go_enter Try.func102,Try.ntmps102
       go_wp2
       go_ret
       exact⟨rfl,FIN.out _⟩
      ·rw[if_neg (by omega)]
       go_enter Try.func102,Try.ntmps102
       go_wp2
       go_ret
       exact⟨rfl,FIN.out _⟩
    ·have e:sizeE kind n=0:=by unfold sizeE;rw[if_neg k0,if_neg k2,if_neg k3,if_neg k4]
     rw[e];clear e
     go_enter Try.func102,Try.ntmps102
     go_wp2
     go_ret
     exact⟨rfl,FIN.out _⟩
abbrev snV(kind n r:Int)(A:Option Addr)(l c:Nat)(want:Int)(blue:Bool):Value:=.agg #[.int .i64 kind,.int .i64 n,.int .i64 r,.slice A l c,.int .i64 want,.bool blue]
def SnBox(w:World)(b:Nat)(kind n r:Int)(A:Option Addr)(l c:Nat)(want:Int)(blue:Bool):Prop:=
 w.cell? ⟨b,0,none⟩=some (.int .i64 kind)/\w.cell? ⟨b,1,none⟩=some (.int .i64 n)/\w.cell? ⟨b,2,none⟩=some (.int .i64 r)/\w.cell? ⟨b,3,none⟩=some (.slice A l c)/\w.cell? ⟨b,4,none⟩=some (.int .i64 want)/\w.cell? ⟨b,5,none⟩=some (.bool blue)
theorem SnBox.new(w:World)(kind n r:Int)(A:Option Addr)(l c:Nat)(want:Int)(blue:Bool)(t:TypeId):SnBox (w.alloc (.cells #[.int .i64 kind,.int .i64 n,.int .i64 r,.slice A l c,.int .i64 want,.bool blue] t)) w.heap.size kind n r A l c want blue:=
 ⟨by simp[go_sem],by simp[go_sem],by simp[go_sem],by simp[go_sem],by simp[go_sem],by simp[go_sem]⟩
theorem SnBox.below{w w':World}{b:Nat}{kind n r:Int}{A:Option Addr}{l c:Nat}{want:Int}{blue:Bool}(h:SnBox w b kind n r A l c want blue)(hb:Below w.heap.size w w'):SnBox w' b kind n r A l c want blue:=
 ⟨keep_cell hb h.1,keep_cell hb h.2.1,keep_cell hb h.2.2.1,keep_cell hb h.2.2.2.1,keep_cell hb h.2.2.2.2.1,keep_cell hb h.2.2.2.2.2⟩
theorem Node_any(kind n r:Int)(A:Option Addr)(l c:Nat)(want:Int)(blue:Bool)(w:World)(h1:1<=want)(h2:want<=32768):
  Calls Try.prog 75 #[snV kind n r A l c want blue] w (Ret w (.int .i64 (nodeE kind n r l want blue))):=by
 have fin:∀t t',Below w.heap.size w ((w.alloc (.cells #[.int .i64 kind,.int .i64 n,.int .i64 r,.slice A l c,.int .i64 want,.bool blue] t)).alloc (.cells #[.int .i64 kind,.int .i64 n,.int .i64 r,.slice A l c] t')):=λt t'=>((Below.refl _ w).alloc (Nat.le_refl _) _).alloc (by simp) _
 have FIN:=aZ fin
 clear fin
 unfold nodeE
 by_cases ka:kind<0
 ·rw[if_pos (.inl ka)]
  go_enter Try.func75,Try.ntmps75
  go_wp2
  go_ret
  exact⟨rfl,FIN.out _ _⟩
 by_cases kb:4<kind
 ·rw[if_pos (.inr (.inl kb))]
  go_enter Try.func75,Try.ntmps75
  go_wp2
  go_ret
  exact⟨rfl,FIN.out _ _⟩
 by_cases kc:kind=4/\blue=true
 ·rw[if_pos (.inr (.inr kc))]
  obtain⟨rfl,rfl⟩:=kc
  go_enter Try.func75,Try.ntmps75
  go_wp2
  go_ret
  exact⟨rfl,FIN.out _ _⟩
 rw[if_neg (by
    rintro(h|h|h)
    ·exact ka h
    ·exact kb h
    ·exact kc h)]
 have hb4:kind=4->blue=false:=λe=>by
  cases hb:blue
  ·rfl
  ·exact absurd ⟨e,hb⟩ kc
 clear kc
 by_cases hn:n=want
 ·subst hn
  rw[if_neg (by simp)]
  have h16:Hid (sizeE kind n=0->kind=4->n<=16384):=aZ (λhs e=>by
   subst e
   unfold sizeE at hs
   rw[if_neg (by decide),if_neg (by decide),if_neg (by decide),if_pos rfl] at hs
   by_cases hp:(n<2\/16384<n)
   ·rw[if_pos hp] at hs;omega
   ·omega)
  have HSZ:=aZ (λw=>sized_any kind n r A l c w h1 h2)
  have HWA:=aZ (λhk w=>RWants_any kind n r A l c w h1 h2 hk)
  have hlen:(wantsF kind n r).length<=2:=by
   unfold wantsF
   (repeat' split)<;>simp
  have HRB:Hid (kind=1->∀b,decide (2<=r/\r<n/\n%r=0)=b->radixB kind n r=b):=aZ (λe b h=>by unfold radixB;rw[if_pos e,h])
  have HRC:Hid (kind≠1->∀b,decide (r=0)=b->radixB kind n r=b):=aZ (λe b h=>by unfold radixB;rw[if_neg e,h])
  generalize sizeE kind n=e at*
  generalize radixB kind n r=rb at*
  generalize wantsF kind n r=L at*
  have HLL:=aZ hlen
  by_cases he:e=0
  ·subst he
   rw[if_neg (by simp)]
   have HW2:=aZ (HWA.out (h16.out rfl))
   clear HWA h16 hlen
   by_cases hl:l=L.length
   ·rw[if_neg (by simp[hl])]
    have hll:((l:Int) != (L.length:Int))=false:=by rw[hl];simp
    have HLE:=aZ hl
    clear hl
    obtain⟨v,hv⟩:∃v:Int,(if rb=true then 0 else 23)=v:=⟨_,rfl⟩
    rw[hv]
    have HV:=aZ hv
    clear hv
    by_cases k1:kind=1
    ·subst k1
     have HR2:=aZ (HRB.out rfl)
     clear HRB HRC hb4
     by_cases r2:r<2
     ·obtain rfl:v=23:=by rw[<-HV.out,HR2.out false (decide_eq_false (by omega)),if_neg (by decide)]
      clear HV HR2
      go_enter Try.func75,Try.ntmps75
      go_wp2_with fail
      have hP0:=PlBox.new (w.alloc (.cells #[.int .i64 1,.int .i64 n,.int .i64 r,.slice A l c,.int .i64 n,.bool blue] 116)) 1 n r A l c 29
      simp only[World.size_alloc] at hP0
      have hB0:w.heap.size+1<((w.alloc (.cells #[.int .i64 1,.int .i64 n,.int .i64 r,.slice A l c,.int .i64 n,.bool blue] 116)).alloc (.cells #[.int .i64 1,.int .i64 n,.int .i64 r,.slice A l c] 29)).heap.size/\Below w.heap.size w ((w.alloc (.cells #[.int .i64 1,.int .i64 n,.int .i64 r,.slice A l c,.int .i64 n,.bool blue] 116)).alloc (.cells #[.int .i64 1,.int .i64 n,.int .i64 r,.slice A l c] 29)):=⟨by simp,FIN.out _ _⟩
      generalize hW:((w.alloc (.cells #[.int .i64 1,.int .i64 n,.int .i64 r,.slice A l c,.int .i64 n,.bool blue] 116)).alloc (.cells #[.int .i64 1,.int .i64 n,.int .i64 r,.slice A l c] 29))=W at*
      refine(HSZ.out _).mono ?_
      rintro z w1 ⟨rfl,hb1⟩
      have HB:Hid (w.heap.size+1<w1.heap.size/\Below w.heap.size w w1):=aZ ⟨Nat.lt_of_lt_of_le hB0.1 hb1.size,hB0.2.trans (hb1.mono (by omega))⟩
      have HP:=aZ (hP0.below hb1)
      obtain⟨p0,p1,p2,p3⟩:=HP.out
      clear hb1 hP0 hB0 hW
      go_wp2_with fail
      refine(HW2.out _).mono ?_
      rintro z w2 ⟨⟨A',rfl,-⟩,hb2⟩
      have HB2:Hid (Below w.heap.size w w2):=aZ (HB.out.2.trans (hb2.mono (by have:=HB.out.1;omega)))
      clear p0 p1 p2 p3
      obtain⟨p0,p1,p2,p3⟩:=HP.out.below hb2
      clear hb2 HP HB
      go_wp2
      go_ret
      exact⟨rfl,HB2.out⟩
     ·by_cases rn:n<=r
      ·obtain rfl:v=23:=by rw[<-HV.out,HR2.out false (decide_eq_false (by omega)),if_neg (by decide)]
       clear HV HR2
       go_enter Try.func75,Try.ntmps75
       go_wp2_with fail
       have hP0:=PlBox.new (w.alloc (.cells #[.int .i64 1,.int .i64 n,.int .i64 r,.slice A l c,.int .i64 n,.bool blue] 116)) 1 n r A l c 29
       simp only[World.size_alloc] at hP0
       have hB0:w.heap.size+1<((w.alloc (.cells #[.int .i64 1,.int .i64 n,.int .i64 r,.slice A l c,.int .i64 n,.bool blue] 116)).alloc (.cells #[.int .i64 1,.int .i64 n,.int .i64 r,.slice A l c] 29)).heap.size/\Below w.heap.size w ((w.alloc (.cells #[.int .i64 1,.int .i64 n,.int .i64 r,.slice A l c,.int .i64 n,.bool blue] 116)).alloc (.cells #[.int .i64 1,.int .i64 n,.int .i64 r,.slice A l c] 29)):=⟨by simp,FIN.out _ _⟩
       generalize hW:((w.alloc (.cells #[.int .i64 1,.int .i64 n,.int .i64 r,.slice A l c,.int .i64 n,.bool blue] 116)).alloc (.cells #[.int .i64 1,.int .i64 n,.int .i64 r,.slice A l c] 29))=W at*
       refine(HSZ.out _).mono ?_
       rintro z w1 ⟨rfl,hb1⟩
       have HB:Hid (w.heap.size+1<w1.heap.size/\Below w.heap.size w w1):=aZ ⟨Nat.lt_of_lt_of_le hB0.1 hb1.size,hB0.2.trans (hb1.mono (by omega))⟩
       have HP:=aZ (hP0.below hb1)
       obtain⟨p0,p1,p2,p3⟩:=HP.out
       clear hb1 hP0 hB0 hW
       go_wp2_with fail
       refine(HW2.out _).mono ?_
       rintro z w2 ⟨⟨A',rfl,-⟩,hb2⟩
       have HB2:Hid (Below w.heap.size w w2):=aZ (HB.out.2.trans (hb2.mono (by have:=HB.out.1;omega)))
       clear p0 p1 p2 p3
       obtain⟨p0,p1,p2,p3⟩:=HP.out.below hb2
       clear hb2 HP HB
       go_wp2
       go_ret
       exact⟨rfl,HB2.out⟩
      ·have ht:n.tmod r=n%r:=Int.tmod_eq_emod_of_nonneg (by omega)
       have hr1:¬r=0:=by omega
       have hr0:(r==0)=false:=by rw[beq_eq_false_iff_ne];omega
       have b0:=Int.emod_nonneg n hr1
       have b1:=Int.emod_lt_of_pos n (show 0<r by omega)
       have HR3:Hid (∀b,decide (n%r=0)=b->rb=b):=aZ (λb h=>HR2.out b (by rw[<-h];exact decide_eq_decide.2 ⟨λx=>x.2.2,λx=>⟨by omega,by omega,x⟩⟩))
       clear HR2
       generalize n%r=q at*
       by_cases hq:q=0
       ·obtain rfl:v=0:=by rw[<-HV.out,HR3.out true (decide_eq_true hq),if_pos rfl]
        subst hq
        clear HV HR3 b0 b1
        go_enter Try.func75,Try.ntmps75
        go_wp2_with fail
        have hP0:=PlBox.new (w.alloc (.cells #[.int .i64 1,.int .i64 n,.int .i64 r,.slice A l c,.int .i64 n,.bool blue] 116)) 1 n r A l c 29
        simp only[World.size_alloc] at hP0
        have hB0:w.heap.size+1<((w.alloc (.cells #[.int .i64 1,.int .i64 n,.int .i64 r,.slice A l c,.int .i64 n,.bool blue] 116)).alloc (.cells #[.int .i64 1,.int .i64 n,.int .i64 r,.slice A l c] 29)).heap.size/\Below w.heap.size w ((w.alloc (.cells #[.int .i64 1,.int .i64 n,.int .i64 r,.slice A l c,.int .i64 n,.bool blue] 116)).alloc (.cells #[.int .i64 1,.int .i64 n,.int .i64 r,.slice A l c] 29)):=⟨by simp,FIN.out _ _⟩
        generalize hW:((w.alloc (.cells #[.int .i64 1,.int .i64 n,.int .i64 r,.slice A l c,.int .i64 n,.bool blue] 116)).alloc (.cells #[.int .i64 1,.int .i64 n,.int .i64 r,.slice A l c] 29))=W at*
        refine(HSZ.out _).mono ?_
        rintro z w1 ⟨rfl,hb1⟩
        have HB:Hid (w.heap.size+1<w1.heap.size/\Below w.heap.size w w1):=aZ ⟨Nat.lt_of_lt_of_le hB0.1 hb1.size,hB0.2.trans (hb1.mono (by omega))⟩
        have HP:=aZ (hP0.below hb1)
        obtain⟨p0,p1,p2,p3⟩:=HP.out
        clear hb1 hP0 hB0 hW
        go_wp2_with fail
        refine(HW2.out _).mono ?_
        rintro z w2 ⟨⟨A',rfl,-⟩,hb2⟩
        have HB2:Hid (Below w.heap.size w w2):=aZ (HB.out.2.trans (hb2.mono (by have:=HB.out.1;omega)))
        clear p0 p1 p2 p3
        obtain⟨p0,p1,p2,p3⟩:=HP.out.below hb2
        clear hb2 HP HB
        go_wp2
        go_ret
        exact⟨rfl,HB2.out⟩
       ·obtain rfl:v=23:=by rw[<-HV.out,HR3.out false (decide_eq_false hq),if_neg (by decide)]
        have hqi:(q != 0)=true:=by simpa using hq
        have hw:IntKind.i64.wrap q=q:=by rw[IntKind.wrap_i64];omega
        clear HV HR3 b0 b1
        go_enter Try.func75,Try.ntmps75
        go_wp2_with fail
        have hP0:=PlBox.new (w.alloc (.cells #[.int .i64 1,.int .i64 n,.int .i64 r,.slice A l c,.int .i64 n,.bool blue] 116)) 1 n r A l c 29
        simp only[World.size_alloc] at hP0
        have hB0:w.heap.size+1<((w.alloc (.cells #[.int .i64 1,.int .i64 n,.int .i64 r,.slice A l c,.int .i64 n,.bool blue] 116)).alloc (.cells #[.int .i64 1,.int .i64 n,.int .i64 r,.slice A l c] 29)).heap.size/\Below w.heap.size w ((w.alloc (.cells #[.int .i64 1,.int .i64 n,.int .i64 r,.slice A l c,.int .i64 n,.bool blue] 116)).alloc (.cells #[.int .i64 1,.int .i64 n,.int .i64 r,.slice A l c] 29)):=⟨by simp,FIN.out _ _⟩
        generalize hW:((w.alloc (.cells #[.int .i64 1,.int .i64 n,.int .i64 r,.slice A l c,.int .i64 n,.bool blue] 116)).alloc (.cells #[.int .i64 1,.int .i64 n,.int .i64 r,.slice A l c] 29))=W at*
        refine(HSZ.out _).mono ?_
        rintro z w1 ⟨rfl,hb1⟩
        have HB:Hid (w.heap.size+1<w1.heap.size/\Below w.heap.size w w1):=aZ ⟨Nat.lt_of_lt_of_le hB0.1 hb1.size,hB0.2.trans (hb1.mono (by omega))⟩
        have HP:=aZ (hP0.below hb1)
        obtain⟨p0,p1,p2,p3⟩:=HP.out
        clear hb1 hP0 hB0 hW
        go_wp2_with fail
        refine(HW2.out _).mono ?_
        rintro z w2 ⟨⟨A',rfl,-⟩,hb2⟩
        have HB2:Hid (Below w.heap.size w w2):=aZ (HB.out.2.trans (hb2.mono (by have:=HB.out.1;omega)))
        clear p0 p1 p2 p3
        obtain⟨p0,p1,p2,p3⟩:=HP.out.below hb2
        clear hb2 HP HB
        go_wp2
        go_ret
        exact⟨rfl,HB2.out⟩
    ·have k1i:(kind==1)=false:=by simpa using k1
     have HR2:=aZ (HRC.out k1)
     clear HRB HRC
     by_cases r0:r=0
     ·obtain rfl:v=0:=by rw[<-HV.out,HR2.out true (decide_eq_true r0),if_pos rfl]
      have r0i:(r != 0)=false:=by simpa using r0
      clear HV HR2 r0
      by_cases k4:kind=4
      ·subst k4
       obtain rfl:blue=false:=hb4 rfl
       go_enter Try.func75,Try.ntmps75
       go_wp2_with fail
       have hP0:=PlBox.new (w.alloc (.cells #[.int .i64 4,.int .i64 n,.int .i64 r,.slice A l c,.int .i64 n,.bool false] 116)) 4 n r A l c 29
       simp only[World.size_alloc] at hP0
       have hB0:w.heap.size+1<((w.alloc (.cells #[.int .i64 4,.int .i64 n,.int .i64 r,.slice A l c,.int .i64 n,.bool false] 116)).alloc (.cells #[.int .i64 4,.int .i64 n,.int .i64 r,.slice A l c] 29)).heap.size/\Below w.heap.size w ((w.alloc (.cells #[.int .i64 4,.int .i64 n,.int .i64 r,.slice A l c,.int .i64 n,.bool false] 116)).alloc (.cells #[.int .i64 4,.int .i64 n,.int .i64 r,.slice A l c] 29)):=⟨by simp,FIN.out _ _⟩
       generalize hW:((w.alloc (.cells #[.int .i64 4,.int .i64 n,.int .i64 r,.slice A l c,.int .i64 n,.bool false] 116)).alloc (.cells #[.int .i64 4,.int .i64 n,.int .i64 r,.slice A l c] 29))=W at*
       refine(HSZ.out _).mono ?_
       rintro z w1 ⟨rfl,hb1⟩
       have HB:Hid (w.heap.size+1<w1.heap.size/\Below w.heap.size w w1):=aZ ⟨Nat.lt_of_lt_of_le hB0.1 hb1.size,hB0.2.trans (hb1.mono (by omega))⟩
       have HP:=aZ (hP0.below hb1)
       obtain⟨p0,p1,p2,p3⟩:=HP.out
       clear hb1 hP0 hB0 hW
       go_wp2_with fail
       refine(HW2.out _).mono ?_
       rintro z w2 ⟨⟨A',rfl,-⟩,hb2⟩
       have HB2:Hid (Below w.heap.size w w2):=aZ (HB.out.2.trans (hb2.mono (by have:=HB.out.1;omega)))
       clear p0 p1 p2 p3
       obtain⟨p0,p1,p2,p3⟩:=HP.out.below hb2
       clear hb2 HP HB
       go_wp2
       go_ret
       exact⟨rfl,HB2.out⟩
      ·have k4i:(kind==4)=false:=by simpa using k4
       go_enter Try.func75,Try.ntmps75
       go_wp2_with fail
       have hP0:=PlBox.new (w.alloc (.cells #[.int .i64 kind,.int .i64 n,.int .i64 r,.slice A l c,.int .i64 n,.bool blue] 116)) kind n r A l c 29
       simp only[World.size_alloc] at hP0
       have hB0:w.heap.size+1<((w.alloc (.cells #[.int .i64 kind,.int .i64 n,.int .i64 r,.slice A l c,.int .i64 n,.bool blue] 116)).alloc (.cells #[.int .i64 kind,.int .i64 n,.int .i64 r,.slice A l c] 29)).heap.size/\Below w.heap.size w ((w.alloc (.cells #[.int .i64 kind,.int .i64 n,.int .i64 r,.slice A l c,.int .i64 n,.bool blue] 116)).alloc (.cells #[.int .i64 kind,.int .i64 n,.int .i64 r,.slice A l c] 29)):=⟨by simp,FIN.out _ _⟩
       generalize hW:((w.alloc (.cells #[.int .i64 kind,.int .i64 n,.int .i64 r,.slice A l c,.int .i64 n,.bool blue] 116)).alloc (.cells #[.int .i64 kind,.int .i64 n,.int .i64 r,.slice A l c] 29))=W at*
       refine(HSZ.out _).mono ?_
       rintro z w1 ⟨rfl,hb1⟩
       have HB:Hid (w.heap.size+1<w1.heap.size/\Below w.heap.size w w1):=aZ ⟨Nat.lt_of_lt_of_le hB0.1 hb1.size,hB0.2.trans (hb1.mono (by omega))⟩
       have HP:=aZ (hP0.below hb1)
       obtain⟨p0,p1,p2,p3⟩:=HP.out
       clear hb1 hP0 hB0 hW
       go_wp2_with fail
       refine(HW2.out _).mono ?_
       rintro z w2 ⟨⟨A',rfl,-⟩,hb2⟩
       have HB2:Hid (Below w.heap.size w w2):=aZ (HB.out.2.trans (hb2.mono (by have:=HB.out.1;omega)))
       clear p0 p1 p2 p3
       obtain⟨p0,p1,p2,p3⟩:=HP.out.below hb2
       clear hb2 HP HB
       go_wp2
       go_ret
       exact⟨rfl,HB2.out⟩
     ·have r0i:(r != 0)=true:=by simpa using r0
      obtain rfl:v=23:=by rw[<-HV.out,HR2.out false (decide_eq_false r0),if_neg (by decide)]
      clear HV HR2 r0
      by_cases k4:kind=4
      ·subst k4
       obtain rfl:blue=false:=hb4 rfl
       go_enter Try.func75,Try.ntmps75
       go_wp2_with fail
       have hP0:=PlBox.new (w.alloc (.cells #[.int .i64 4,.int .i64 n,.int .i64 r,.slice A l c,.int .i64 n,.bool false] 116)) 4 n r A l c 29
       simp only[World.size_alloc] at hP0
       have hB0:w.heap.size+1<((w.alloc (.cells #[.int .i64 4,.int .i64 n,.int .i64 r,.slice A l c,.int .i64 n,.bool false] 116)).alloc (.cells #[.int .i64 4,.int .i64 n,.int .i64 r,.slice A l c] 29)).heap.size/\Below w.heap.size w ((w.alloc (.cells #[.int .i64 4,.int .i64 n,.int .i64 r,.slice A l c,.int .i64 n,.bool false] 116)).alloc (.cells #[.int .i64 4,.int .i64 n,.int .i64 r,.slice A l c] 29)):=⟨by simp,FIN.out _ _⟩
       generalize hW:((w.alloc (.cells #[.int .i64 4,.int .i64 n,.int .i64 r,.slice A l c,.int .i64 n,.bool false] 116)).alloc (.cells #[.int .i64 4,.int .i64 n,.int .i64 r,.slice A l c] 29))=W at*
       refine(HSZ.out _).mono ?_
       rintro z w1 ⟨rfl,hb1⟩
       have HB:Hid (w.heap.size+1<w1.heap.size/\Below w.heap.size w w1):=aZ ⟨Nat.lt_of_lt_of_le hB0.1 hb1.size,hB0.2.trans (hb1.mono (by omega))⟩
       have HP:=aZ (hP0.below hb1)
       obtain⟨p0,p1,p2,p3⟩:=HP.out
       clear hb1 hP0 hB0 hW
       go_wp2_with fail
       refine(HW2.out _).mono ?_
       rintro z w2 ⟨⟨A',rfl,-⟩,hb2⟩
       have HB2:Hid (Below w.heap.size w w2):=aZ (HB.out.2.trans (hb2.mono (by have:=HB.out.1;omega)))
       clear p0 p1 p2 p3
       obtain⟨p0,p1,p2,p3⟩:=HP.out.below hb2
       clear hb2 HP HB
       go_wp2
       go_ret
       exact⟨rfl,HB2.out⟩
      ·have k4i:(kind==4)=false:=by simpa using k4
       go_enter Try.func75,Try.ntmps75
       go_wp2_with fail
       have hP0:=PlBox.new (w.alloc (.cells #[.int .i64 kind,.int .i64 n,.int .i64 r,.slice A l c,.int .i64 n,.bool blue] 116)) kind n r A l c 29
       simp only[World.size_alloc] at hP0
       have hB0:w.heap.size+1<((w.alloc (.cells #[.int .i64 kind,.int .i64 n,.int .i64 r,.slice A l c,.int .i64 n,.bool blue] 116)).alloc (.cells #[.int .i64 kind,.int .i64 n,.int .i64 r,.slice A l c] 29)).heap.size/\Below w.heap.size w ((w.alloc (.cells #[.int .i64 kind,.int .i64 n,.int .i64 r,.slice A l c,.int .i64 n,.bool blue] 116)).alloc (.cells #[.int .i64 kind,.int .i64 n,.int .i64 r,.slice A l c] 29)):=⟨by simp,FIN.out _ _⟩
       generalize hW:((w.alloc (.cells #[.int .i64 kind,.int .i64 n,.int .i64 r,.slice A l c,.int .i64 n,.bool blue] 116)).alloc (.cells #[.int .i64 kind,.int .i64 n,.int .i64 r,.slice A l c] 29))=W at*
       refine(HSZ.out _).mono ?_
       rintro z w1 ⟨rfl,hb1⟩
       have HB:Hid (w.heap.size+1<w1.heap.size/\Below w.heap.size w w1):=aZ ⟨Nat.lt_of_lt_of_le hB0.1 hb1.size,hB0.2.trans (hb1.mono (by omega))⟩
       have HP:=aZ (hP0.below hb1)
       obtain⟨p0,p1,p2,p3⟩:=HP.out
       clear hb1 hP0 hB0 hW
       go_wp2_with fail
       refine(HW2.out _).mono ?_
       rintro z w2 ⟨⟨A',rfl,-⟩,hb2⟩
       have HB2:Hid (Below w.heap.size w w2):=aZ (HB.out.2.trans (hb2.mono (by have:=HB.out.1;omega)))
       clear p0 p1 p2 p3
       obtain⟨p0,p1,p2,p3⟩:=HP.out.below hb2
       clear hb2 HP HB
       go_wp2
       go_ret
       exact⟨rfl,HB2.out⟩
   ·rw[if_pos hl]
    have hll:((l:Int) != (L.length:Int))=true:=by simp;omega
    clear hl HRB HRC
    by_cases k4:kind=4
    ·subst k4
     obtain rfl:blue=false:=hb4 rfl
     go_enter Try.func75,Try.ntmps75
     go_wp2_with fail
     have hP0:=PlBox.new (w.alloc (.cells #[.int .i64 4,.int .i64 n,.int .i64 r,.slice A l c,.int .i64 n,.bool false] 116)) 4 n r A l c 29
     simp only[World.size_alloc] at hP0
     have hB0:w.heap.size+1<((w.alloc (.cells #[.int .i64 4,.int .i64 n,.int .i64 r,.slice A l c,.int .i64 n,.bool false] 116)).alloc (.cells #[.int .i64 4,.int .i64 n,.int .i64 r,.slice A l c] 29)).heap.size/\Below w.heap.size w ((w.alloc (.cells #[.int .i64 4,.int .i64 n,.int .i64 r,.slice A l c,.int .i64 n,.bool false] 116)).alloc (.cells #[.int .i64 4,.int .i64 n,.int .i64 r,.slice A l c] 29)):=⟨by simp,FIN.out _ _⟩
     generalize hW:((w.alloc (.cells #[.int .i64 4,.int .i64 n,.int .i64 r,.slice A l c,.int .i64 n,.bool false] 116)).alloc (.cells #[.int .i64 4,.int .i64 n,.int .i64 r,.slice A l c] 29))=W at*
     refine(HSZ.out _).mono ?_
     rintro z w1 ⟨rfl,hb1⟩
     have HB:Hid (w.heap.size+1<w1.heap.size/\Below w.heap.size w w1):=aZ ⟨Nat.lt_of_lt_of_le hB0.1 hb1.size,hB0.2.trans (hb1.mono (by omega))⟩
     have HP:=aZ (hP0.below hb1)
     obtain⟨p0,p1,p2,p3⟩:=HP.out
     clear hb1 hP0 hB0 hW
     go_wp2_with fail
     refine(HW2.out _).mono ?_
     rintro z w2 ⟨⟨A',rfl,-⟩,hb2⟩
     have HB2:Hid (Below w.heap.size w w2):=aZ (HB.out.2.trans (hb2.mono (by have:=HB.out.1;omega)))
     clear p0 p1 p2 p3
     obtain⟨p0,p1,p2,p3⟩:=HP.out.below hb2
     clear hb2 HP HB
     go_wp2
     go_ret
     exact⟨rfl,HB2.out⟩
    ·have k4i:(kind==4)=false:=by simpa using k4
     go_enter Try.func75,Try.ntmps75
     go_wp2_with fail
     have hP0:=PlBox.new (w.alloc (.cells #[.int .i64 kind,.int .i64 n,.int .i64 r,.slice A l c,.int .i64 n,.bool blue] 116)) kind n r A l c 29
     simp only[World.size_alloc] at hP0
     have hB0:w.heap.size+1<((w.alloc (.cells #[.int .i64 kind,.int .i64 n,.int .i64 r,.slice A l c,.int .i64 n,.bool blue] 116)).alloc (.cells #[.int .i64 kind,.int .i64 n,.int .i64 r,.slice A l c] 29)).heap.size/\Below w.heap.size w ((w.alloc (.cells #[.int .i64 kind,.int .i64 n,.int .i64 r,.slice A l c,.int .i64 n,.bool blue] 116)).alloc (.cells #[.int .i64 kind,.int .i64 n,.int .i64 r,.slice A l c] 29)):=⟨by simp,FIN.out _ _⟩
     generalize hW:((w.alloc (.cells #[.int .i64 kind,.int .i64 n,.int .i64 r,.slice A l c,.int .i64 n,.bool blue] 116)).alloc (.cells #[.int .i64 kind,.int .i64 n,.int .i64 r,.slice A l c] 29))=W at*
     refine(HSZ.out _).mono ?_
     rintro z w1 ⟨rfl,hb1⟩
     have HB:Hid (w.heap.size+1<w1.heap.size/\Below w.heap.size w w1):=aZ ⟨Nat.lt_of_lt_of_le hB0.1 hb1.size,hB0.2.trans (hb1.mono (by omega))⟩
     have HP:=aZ (hP0.below hb1)
     obtain⟨p0,p1,p2,p3⟩:=HP.out
     clear hb1 hP0 hB0 hW
     go_wp2_with fail
     refine(HW2.out _).mono ?_
     rintro z w2 ⟨⟨A',rfl,-⟩,hb2⟩
     have HB2:Hid (Below w.heap.size w w2):=aZ (HB.out.2.trans (hb2.mono (by have:=HB.out.1;omega)))
     clear p0 p1 p2 p3
     obtain⟨p0,p1,p2,p3⟩:=HP.out.below hb2
     clear hb2 HP HB
     go_wp2
     go_ret
     exact⟨rfl,HB2.out⟩
  ·rw[if_pos he]
   have hei:(e != 0)=true:=by simpa using he
   clear HWA h16 hlen HRB HRC he
   by_cases k4:kind=4
   ·subst k4
    obtain rfl:blue=false:=hb4 rfl
    go_enter Try.func75,Try.ntmps75
    go_wp2_with fail
    have hP0:=PlBox.new (w.alloc (.cells #[.int .i64 4,.int .i64 n,.int .i64 r,.slice A l c,.int .i64 n,.bool false] 116)) 4 n r A l c 29
    simp only[World.size_alloc] at hP0
    have hB0:w.heap.size+1<((w.alloc (.cells #[.int .i64 4,.int .i64 n,.int .i64 r,.slice A l c,.int .i64 n,.bool false] 116)).alloc (.cells #[.int .i64 4,.int .i64 n,.int .i64 r,.slice A l c] 29)).heap.size/\Below w.heap.size w ((w.alloc (.cells #[.int .i64 4,.int .i64 n,.int .i64 r,.slice A l c,.int .i64 n,.bool false] 116)).alloc (.cells #[.int .i64 4,.int .i64 n,.int .i64 r,.slice A l c] 29)):=⟨by simp,FIN.out _ _⟩
    generalize hW:((w.alloc (.cells #[.int .i64 4,.int .i64 n,.int .i64 r,.slice A l c,.int .i64 n,.bool false] 116)).alloc (.cells #[.int .i64 4,.int .i64 n,.int .i64 r,.slice A l c] 29))=W at*
    refine(HSZ.out _).mono ?_
    rintro z w1 ⟨rfl,hb1⟩
    have HB:Hid (w.heap.size+1<w1.heap.size/\Below w.heap.size w w1):=aZ ⟨Nat.lt_of_lt_of_le hB0.1 hb1.size,hB0.2.trans (hb1.mono (by omega))⟩
    have HP:=aZ (hP0.below hb1)
    obtain⟨p0,p1,p2,p3⟩:=HP.out
    clear hb1 hP0 hB0 hW
    go_wp2
    go_ret
    exact⟨rfl,HB.out.2⟩
   ·have k4i:(kind==4)=false:=by simpa using k4
    go_enter Try.func75,Try.ntmps75
    go_wp2_with fail
    have hP0:=PlBox.new (w.alloc (.cells #[.int .i64 kind,.int .i64 n,.int .i64 r,.slice A l c,.int .i64 n,.bool blue] 116)) kind n r A l c 29
    simp only[World.size_alloc] at hP0
    have hB0:w.heap.size+1<((w.alloc (.cells #[.int .i64 kind,.int .i64 n,.int .i64 r,.slice A l c,.int .i64 n,.bool blue] 116)).alloc (.cells #[.int .i64 kind,.int .i64 n,.int .i64 r,.slice A l c] 29)).heap.size/\Below w.heap.size w ((w.alloc (.cells #[.int .i64 kind,.int .i64 n,.int .i64 r,.slice A l c,.int .i64 n,.bool blue] 116)).alloc (.cells #[.int .i64 kind,.int .i64 n,.int .i64 r,.slice A l c] 29)):=⟨by simp,FIN.out _ _⟩
    generalize hW:((w.alloc (.cells #[.int .i64 kind,.int .i64 n,.int .i64 r,.slice A l c,.int .i64 n,.bool blue] 116)).alloc (.cells #[.int .i64 kind,.int .i64 n,.int .i64 r,.slice A l c] 29))=W at*
    refine(HSZ.out _).mono ?_
    rintro z w1 ⟨rfl,hb1⟩
    have HB:Hid (w.heap.size+1<w1.heap.size/\Below w.heap.size w w1):=aZ ⟨Nat.lt_of_lt_of_le hB0.1 hb1.size,hB0.2.trans (hb1.mono (by omega))⟩
    have HP:=aZ (hP0.below hb1)
    obtain⟨p0,p1,p2,p3⟩:=HP.out
    clear hb1 hP0 hB0 hW
    go_wp2
    go_ret
    exact⟨rfl,HB.out.2⟩
 ·rw[if_pos hn]
  have hni:(n != want)=true:=by simpa using hn
  clear hn
  by_cases k4:kind=4
  ·subst k4
   obtain rfl:blue=false:=hb4 rfl
   go_enter Try.func75,Try.ntmps75
   go_wp2
   go_ret
   exact⟨rfl,FIN.out _ _⟩
  ·have k4i:(kind==4)=false:=by simpa using k4
   go_enter Try.func75,Try.ntmps75
   go_wp2
   go_ret
   exact⟨rfl,FIN.out _ _⟩
def NodesN(kind n r:Int)(q:Fo):Prop:=q.count<=1099511627776->∀(w:World) (A:Option Addr) (c:Nat),Kids w A 0 q->
 Calls Try.prog 74 #[plV kind n r A q.len c] w (Ret w (.int .i64 ((1+q.count:Nat):Int)))
theorem len_count':∀fo:Fo,fo.len<=fo.count
 |.nil=>Nat.le_refl _
 |.cons _ _ _ q rest=>by
   have:=len_count' rest
   simp only[Fo.len,Fo.count]
   omega
theorem count_kid{i:Nat}{q:Fo}{k' n' r':Int}{q' rest:Fo}(h:q.drop i=.cons k' n' r' q' rest):(q.upto (i+1)).length=(q.upto i).length+(1+q'.count):=by
 have:=congrArg List.length (upto_succ i q h)
 rw[List.length_append,List.length_cons,flat_len] at this
 omega
theorem nodes_all:∀fo:Fo,fo.all NodesN:=Fo.all_of λkind n r q ih=>by
 intro hc w A c hk
 have HK:=aZ hk
 have HIH:=aZ ih
 have HC:=aZ hc
 have hql:q.len<=1099511627776:=by have:=len_count' q;omega
 clear hk ih hc
 go_enter Try.func74,Try.ntmps74
 go_wp2
 have hP:=PlBox.new w kind n r A q.len c 29
 have hB0:w.heap.size<(w.alloc (.cells #[.int .i64 kind,.int .i64 n,.int .i64 r,.slice A q.len c] 29)).heap.size/\Below w.heap.size w (w.alloc (.cells #[.int .i64 kind,.int .i64 n,.int .i64 r,.slice A q.len c] 29)):=⟨by simp,(Below.refl _ w).alloc (Nat.le_refl _) _⟩
 generalize w.alloc (.cells #[.int .i64 kind,.int .i64 n,.int .i64 r,.slice A q.len c] 29)=W at*
 have HP:=aZ hP
 have HB:=aZ hB0
 clear hP hB0
 go_loopw [3,4,5] (λva vi vk wr=>∃i:Nat,i<=q.len/\vi=.int .i64 i/\va=.int .i64 ((1+(q.upto i).length:Nat):Int)/\Hid (Below W.heap.size W wr)) (λ_ vi _ _=>q.len-(intOf vi).toNat)
 case atStart=>exact⟨0,Nat.zero_le _,rfl,rfl,aZ (Below.refl _ _)⟩
 case round=>
  obtain⟨i,hi,rfl,rfl,hbw⟩:=hrel
  obtain⟨p0,p1,p2,p3⟩:=HP.out.below hbw.out
  have hwr:Below w.heap.size w wr:=HB.out.2.trans (hbw.out.mono (by have:=HB.out.1;omega))
  by_cases hlt:i<q.len
  ·have hlti:(i:Int)<(q.len:Int):=by omega
   obtain⟨k',n',r',q',rest,hd⟩:=drop_lt i q hlt
   obtain⟨bA,oA,B',c',rfl,k0,k1,k2,k3,k5⟩:=HK.out.at' hd
   have hst:=count_kid hd
   have hub:=upto_all q (i+1)
   obtain⟨a,ha⟩:∃a,(q.upto i).length=a:=⟨_,rfl⟩
   rw[ha] at hst|-
   have hq':q'.count<=1099511627776:=by have:=HC.out;omega
   have HN:=aZ (λw' h=>Fo.all_at HIH.out hd hq' w' B' c' h)
   have HKB:=aZ (k5.below hwr)
   have j0:=keep_cell hwr k0
   have j1:=keep_cell hwr k1
   have j2:=keep_cell hwr k2
   have j3:=keep_cell hwr k3
   obtain⟨y,hy⟩:∃y,q'.count=y:=⟨_,rfl⟩
   rw[hy] at hst HN
   have HA:Hid (1+a+(1+y)=1+(q.upto (i+1)).length):=aZ (by omega)
   have hbd:1+a+(1+y)<=2199023255552:=by have:=HC.out;omega
   clear hst hub hq' k0 k1 k2 k3 k5 hy ha hd
   go_wp2_with fail
   refine(HN.out _ HKB.out).mono ?_
   rintro z w1 ⟨rfl,hb1⟩
   have HBN:=aZ (hbw.out.trans (hb1.mono hbw.out.size))
   clear hb1 j0 j1 j2 j3 p0 p1 p2 p3 hbw hwr HKB
   go_wp2
   refine⟨⟨i+1,by omega,by go_num,?_,HBN⟩,by simp[intOf];omega⟩
   rw[<-HA.out]
   go_num
  ·obtain rfl:i=q.len:=by omega
   have HL:Hid ((q.upto q.len).length=q.count):=aZ (by rw[upto_len _ _ (Nat.le_refl _),flat_len])
   have HBN:=aZ hwr
   clear hwr
   go_wp2
   go_ret
   exact⟨by rw[<-HL.out];rfl,HBN.out⟩
structure SN where
 kind:Int
 n:Int
 r:Int
 q:Fo
 A:Option Addr
 c:Nat
 want:Int
 blue:Bool
def SN.cells(x:SN):List Value:=[.int .i64 x.kind,.int .i64 x.n,.int .i64 x.r,.slice x.A x.q.len x.c,.int .i64 x.want,.bool x.blue]
def snL(st:List SN):List Value:=st.flatMap SN.cells
def SN.bad(x:SN):Int:=(Fo.cons x.kind x.n x.r x.q .nil).bad [x.want] x.blue
def badS:List SN->Int
 |[]=>0
 |x::t=>if x.bad≠0 then x.bad else badS t
def sizeS:List SN->Nat
 |[]=>0
 |x::t=>1+x.q.count+sizeS t
def SN.Ok(w:World)(x:SN):Prop:=Kids w x.A 0 x.q/\1<=x.want/\x.want<=32768
theorem badS_app:∀a b:List SN,badS (a++b)=if badS a≠0 then badS a else badS b
 |[],b=>by simp[badS]
 |x::a,b=>by
   rw[List.cons_append,badS,badS,badS_app a b]
   (repeat' split)<;>first|rfl|omega
theorem badS_one(x:SN):badS [x]=x.bad:=by
 simp only[badS]
 split
 ·rfl
 ·omega
theorem sizeS_app:∀a b:List SN,sizeS (a++b)=sizeS a+sizeS b
 |[],b=>by simp[sizeS]
 |x::a,b=>by
   rw[List.cons_append,sizeS,sizeS,sizeS_app a b]
   omega
theorem len_sizeS:∀a:List SN,a.length<=sizeS a
 |[]=>Nat.le_refl _
 |x::a=>by
   have:=len_sizeS a
   rw[List.length_cons,sizeS]
   omega
theorem snL_push(x:SN)(T:List SN):snL (x::T).reverse=snL T.reverse++x.cells:=by simp[snL]
theorem snL_len:∀T:List SN,(snL T).length=T.length*6
 |[]=>rfl
 |x::T=>by
   have:=snL_len T
   show(x.cells++snL T).length=_
   rw[List.length_append,this,List.length_cons]
   show 6+_=_
   omega
theorem bad_ok{x:SN}(h:nodeE x.kind x.n x.r x.q.len x.want x.blue=0):x.bad=x.q.bad (wantsF x.kind x.n x.r) (x.blue||x.kind==4):=by
 unfold SN.bad
 simp only[Fo.bad,List.headD_cons,h]
 (repeat' split)<;>first|rfl|omega
theorem bad_no{x:SN}(h:nodeE x.kind x.n x.r x.q.len x.want x.blue≠0):x.bad=nodeE x.kind x.n x.r x.q.len x.want x.blue:=by
 unfold SN.bad Fo.bad
 exact if_pos h
theorem bad_drop{q:Fo}{i:Nat}{k' n' r':Int}{q' rest:Fo}(h:q.drop i=.cons k' n' r' q' rest)(L:List Int)(b:Bool):
  (q.drop i).bad (L.drop i) b=if(Fo.cons k' n' r' q' .nil).bad [L.getD i 0] b≠0 then(Fo.cons k' n' r' q' .nil).bad [L.getD i 0] b else(q.drop (i+1)).bad (L.drop (i+1)) b:=by
 have hx:(L.drop i).headD 0=L.getD i 0:=by rw[List.getD_eq_getElem?_getD,List.headD_eq_head?_getD,List.head?_drop]
 rw[h,bad_cons,hx,drop_succ i q h,List.tail_drop]
theorem count_drop{q:Fo}{i:Nat}{k' n' r':Int}{q' rest:Fo}(h:q.drop i=.cons k' n' r' q' rest):(q.drop i).count=1+q'.count+(q.drop (i+1)).count:=by
 rw[h,drop_succ i q h,Fo.count]
theorem count_drop_le(q:Fo)(i:Nat):(q.drop i).count<=q.count:=by
 induction i generalizing q with
 |zero=>exact Nat.le_refl _
 |succ i ih=>
   rcases q with _|⟨k,n,r,q,rest⟩
   ·exact Nat.le_refl _
   ·have:=ih rest
    show(rest.drop i).count<=_
    rw[Fo.count]
    omega
theorem info_seen:(Try.prog.info? 116).map (λi=>(i.zero,i.size,i.bytes))=some (some (.agg #[.int .i64 0,.int .i64 0,.int .i64 0,.slice none 0 0,.int .i64 0,.bool false]),6,64):=by kernel_rfl
theorem bs_seen(a b c d e f:Value)(w:World):(Instr.buildSlice 117 1 #[(0,.agg #[a,b,c,d,e,f])]).run Try.prog w=.ok (.slice (some ⟨w.heap.size,0,none⟩) 1 1) (w.alloc (.cells #[a,b,c,d,e,f] 116)):=by
 obtain⟨i0,hi,hz0,hz1,hz2⟩:=info_parts info_seen
 refine run_buildSlice w 117 116 1 _ #[a,b,c,d,e,f] i0 _ Try.underlying117 hi hz0 (by rw[hz1];decide) (by rw[hz1];decide) ?_
 rw[hz1]
 have hr:Array.range 6=#[0,1,2,3,4,5]:=by decide
 simp[Instr.fill,Value.cells,hr]
theorem wpList_appL{ops:Array Oper}{rest:List Oper}{o:Oper}{a:Act}{w:World}{Q:Exit->Act->World->Prop}(hgd:o.guard=none)(s x:Operand)(t e:TypeId)(ho:o.op=.call {callee:=.builtin .append,args:=#[s,x],argTypes:=#[t,t]})(sz bytes:Nat)(z:Value)(hU:Try.prog.underlying t=some (.slice e))(hI:(Try.prog.info? e).map (λi=>(i.zero,i.size,i.bytes))=some (some z,sz,bytes))(hzs:z.cells.size=sz)(hsz:0<sz)(hby:bytes<=64)(base:Nat)(v:Value)(k:Nat)(xs:List Value)(hs:a.eval s=v)(hown:w.ownsRow base e sz v k xs)(b c:Nat)(news:List Value)(hl:news.length=sz)(hx:a.eval x=.slice (some ⟨b,0,none⟩) 1 c)(hn:∀j u,news[j]?=some u->w.cell? ⟨b,j,none⟩=some u)(h1:∀u∈news,u.oneCell'=true)(hk:k+1<=1099511627776)(hbase:base<=w.heap.size)(h:∀g cap w',Hid (w'.ownsRow base e sz (.slice (some ⟨g,0,none⟩) (k+1) cap) (k+1) (xs++news))->Hid (w.grownBy w' v.ownBlock)->Hid (v.ownBlock=some g\/g=w.heap.size)->wpList Try.prog ops Q rest (a.put o.dst (.slice (some ⟨g,0,none⟩) (k+1) cap)) w'):wpList Try.prog ops Q (o::rest) a w:=by
 obtain⟨i0,hi,hz0,hz1,hz2⟩:=info_parts hI
 refine wpList_append_lies w hgd s x t ho base e i0 z sz bytes hU hi hz0 hz1 hz2 hzs hsz v k xs hs hown ⟨b,0,none⟩ 1 c news hx (by omega) ?_ h1 (by omega) (by unfold maxLen;omega) ?_ hbase _ rfl ?_
 ·intro j u hj
  have:=hn j u hj
  rw[Addr.add]
  split
  ·rename_i e;subst e;exact this
  ·simpa using this
 ·have:(k+1)*bytes<=1099511627776*64:=Nat.mul_le_mul hk hby
  omega
 ·intro g cap w' h1 h2 h3 _
  exact h g cap w' (aZ h1) (aZ h2) (aZ h3)
theorem owns_below{W w1:World}{base n sz:Nat}{e:TypeId}{v:Value}{xs:List Value}(h:W.ownsRow base e sz v n xs)(hb:Below W.heap.size W w1):w1.ownsRow base e sz v n xs:=
 h.kept (row:=none) ⟨hb.os,hb.tape,hb.output,hb.size,λk hk _=>hb.block k hk⟩ (by
  cases v.ownBlock
  ·exact .inl rfl
  ·exact .inr (by simp))
theorem owns_at{W:World}{base g cap k:Nat}{xs ys:List Value}{e:TypeId}(h:W.ownsRow base e 6 (.slice (some ⟨g,0,none⟩) (k+1) cap) (k+1) (xs++ys))(hx:xs.length=k*6)(j:Nat)(hj:j<6):W.cell? ⟨g,k*6+j,none⟩=ys[j]?:=by
 rw[World.ownsRow.cellAt h (k*6+j) (by omega),List.getElem?_append_right (by omega)]
 congr 1
 omega
theorem owns_cap{W:World}{base g cap k:Nat}{xs:List Value}{e:TypeId}(h:W.ownsRow base e 6 (.slice (some ⟨g,0,none⟩) k cap) k xs):k<=cap/\cap<=maxLen/\base<=g/\g<W.heap.size:=by
 rcases h.2 with⟨h0,_⟩|⟨g',cap',cur,hv,hb,hg,h1,h2,_⟩
 ·cases h0
 ·cases hv
  exact⟨h1,h2,hb,(Array.getElem?_eq_some_iff.1 hg).1⟩
theorem cells_six(w:World)(a b c d e f:Value)(t:TypeId)(n:Nat)(hn:n=w.heap.size)(j:Nat)(u:Value)(h:[a,b,c,d,e,f][j]?=some u):(w.alloc (.cells #[a,b,c,d,e,f] t)).cell? ⟨n,j,none⟩=some u:=by
 subst hn
 match j,h with
 |0,h=>simp at h;subst h;simp[go_sem]
 |1,h=>simp at h;subst h;simp[go_sem]
 |2,h=>simp at h;subst h;simp[go_sem]
 |3,h=>simp at h;subst h;simp[go_sem]
 |4,h=>simp at h;subst h;simp[go_sem]
 |5,h=>simp at h;subst h;simp[go_sem]
 |j+6,h=>simp at h
theorem one_six(x:SN)(u:Value)(h:u∈x.cells):u.oneCell'=true:=by
 simp only[SN.cells,List.mem_cons,List.not_mem_nil,or_false] at h
 rcases h with rfl|rfl|rfl|rfl|rfl|rfl<;>rfl
theorem grown_cell{w w':World}{row:Option Nat}(hg:w.grownBy w' row){b o:Nat}{v:Value}(hc:w.cell? ⟨b,o,none⟩=some v)(hne:row≠some b):w'.cell? ⟨b,o,none⟩=some v:=by
 rw[World.cell?_of_block (w:=w) (a:=⟨b,o,none⟩) (hg.block b (World.block_lt_of_cell? _ _ hc) (Ne.symm hne)),hc]
theorem SnBox.grown{w w':World}{row:Option Nat}(hg:w.grownBy w' row){b:Nat}{kind n r:Int}{A:Option Addr}{l c:Nat}{want:Int}{blue:Bool}(h:SnBox w b kind n r A l c want blue)(hne:row≠some b):SnBox w' b kind n r A l c want blue:=
 ⟨grown_cell hg h.1 hne,grown_cell hg h.2.1 hne,grown_cell hg h.2.2.1 hne,grown_cell hg h.2.2.2.1 hne,grown_cell hg h.2.2.2.2.1 hne,grown_cell hg h.2.2.2.2.2 hne⟩
theorem seen_keep{w w':World}{bL oL B bA oA i:Nat}{xv kx nx rx wx k' n' r':Int}{X Y:Value}{bx:Bool}(h:w.cell? ⟨bL,oL+i,none⟩=some (.int .i64 xv)/\w.cell? ⟨B,0,none⟩=some (.int .i64 kx)/\w.cell? ⟨B,1,none⟩=some (.int .i64 nx)/\w.cell? ⟨B,2,none⟩=some (.int .i64 rx)/\w.cell? ⟨B,3,none⟩=some X/\w.cell? ⟨B,4,none⟩=some (.int .i64 wx)/\w.cell? ⟨B,5,none⟩=some (.bool bx)/\w.cell? ⟨bA,oA+i*4,none⟩=some (.int .i64 k')/\w.cell? ⟨bA,oA+i*4+1,none⟩=some (.int .i64 n')/\w.cell? ⟨bA,oA+i*4+2,none⟩=some (.int .i64 r')/\w.cell? ⟨bA,oA+i*4+3,none⟩=some Y)(hb:Below w.heap.size w w'):
  w'.cell? ⟨bL,oL+i,none⟩=some (.int .i64 xv)/\w'.cell? ⟨B,0,none⟩=some (.int .i64 kx)/\w'.cell? ⟨B,1,none⟩=some (.int .i64 nx)/\w'.cell? ⟨B,2,none⟩=some (.int .i64 rx)/\w'.cell? ⟨B,3,none⟩=some X/\w'.cell? ⟨B,4,none⟩=some (.int .i64 wx)/\w'.cell? ⟨B,5,none⟩=some (.bool bx)/\w'.cell? ⟨bA,oA+i*4,none⟩=some (.int .i64 k')/\w'.cell? ⟨bA,oA+i*4+1,none⟩=some (.int .i64 n')/\w'.cell? ⟨bA,oA+i*4+2,none⟩=some (.int .i64 r')/\w'.cell? ⟨bA,oA+i*4+3,none⟩=some Y:=by
 obtain⟨h0,h1,h2,h3,h4,h5,h6,h7,h8,h9,h10⟩:=h
 exact⟨keep_cell hb h0,keep_cell hb h1,keep_cell hb h2,keep_cell hb h3,keep_cell hb h4,keep_cell hb h5,keep_cell hb h6,keep_cell hb h7,keep_cell hb h8,keep_cell hb h9,keep_cell hb h10⟩
theorem RCheck_any(kind n r:Int)(q:Fo)(want:Int)(hN:q.count<=1099511627776)(w:World)(A:Option Addr)(c:Nat)(hk:Kids w A 0 q):
  Calls Try.prog 46 #[plV kind n r A q.len c,.int .i64 want] w λz w'=>(∃a:Int,z=.returned (.tuple #[.int .i64 a,.int .i64 (checkE kind n r q want)]))/\Below w.heap.size w w':=by
 have FIN:Hid (∀t,Below w.heap.size w (w.alloc (.cells #[.int .i64 kind,.int .i64 n,.int .i64 r,.slice A q.len c] t))):=aZ (λt=>(Below.refl _ w).alloc (Nat.le_refl _) _)
 unfold checkE
 by_cases ha:want<1
 ·rw[if_pos (.inl ha)]
  go_enter Try.func46,Try.ntmps46
  go_wp2
  go_ret2
  exact⟨⟨_,rfl⟩,FIN.out _⟩
 by_cases hb:32768<want
 ·rw[if_pos (.inr hb)]
  go_enter Try.func46,Try.ntmps46
  go_wp2
  go_ret2
  exact⟨⟨_,rfl⟩,FIN.out _⟩
 rw[if_neg (by omega)]
 have HMN:=aZ (λw h=>(nodes_all (.cons kind n r q .nil)).1 hN w A c h)
 have HK:=aZ hk
 have HW:Hid (1<=want/\want<=32768):=aZ (by omega)
 have hcb:1+q.count<=2199023255552:=by omega
 clear hk hN
 obtain⟨y,hy⟩:∃y,1+q.count=y:=⟨_,rfl⟩
 rw[hy] at HMN hcb|-
 have HY:=aZ hy
 clear hy
 by_cases hm:64<y
 ·rw[if_pos hm]
  have hmi:64<(y:Int):=by omega
  go_enter Try.func46,Try.ntmps46
  go_wp2_with fail
  refine(HMN.out _ (HK.out.below (FIN.out _))).mono ?_
  rintro z w1 ⟨rfl,hb1⟩
  have HB:=aZ ((FIN.out _).trans (hb1.mono (by simp)))
  clear hb1
  go_wp2
  go_ret2
  exact⟨⟨_,rfl⟩,HB.out⟩
 ·rw[if_neg hm]
  have hmi:¬64<(y:Int):=by omega
  obtain⟨E,hE⟩:∃E,(Fo.cons kind n r q .nil).bad [want] false=E:=⟨_,rfl⟩
  rw[hE]
  have HE:=aZ hE
  clear hE
  go_enter Try.func46,Try.ntmps46
  go_wp2_with fail
  have hP:=PlBox.new w kind n r A q.len c 29
  refine(HMN.out _ (HK.out.below (FIN.out _))).mono ?_
  rintro z w1 ⟨rfl,hb1⟩
  obtain⟨p0,p1,p2,p3⟩:=hP.below hb1
  have HB:Hid (w.heap.size<w1.heap.size/\Below w.heap.size w w1):=aZ ⟨Nat.lt_of_lt_of_le (by simp) hb1.size,(FIN.out _).trans (hb1.mono (by simp))⟩
  have bs:=bs_seen
  clear hb1 hP
  go_wp2_with fail
  have HO1:Hid ((w1.alloc (.cells #[.int .i64 kind,.int .i64 n,.int .i64 r,.slice A q.len c,.int .i64 want,.bool false] 116)).ownsRow w.heap.size 116 6 (.slice (some ⟨w1.heap.size,0,none⟩) 1 1) 1 (snL [⟨kind,n,r,q,A,c,want,false⟩])):=
   aZ (World.ownsRow_lit w1 #[.int .i64 kind,.int .i64 n,.int .i64 r,.slice A q.len c,.int .i64 want,.bool false] 1 (by have:=HB.out.1;omega) (by decide) rfl)
  have HB1:Hid (w.heap.size<(w1.alloc (.cells #[.int .i64 kind,.int .i64 n,.int .i64 r,.slice A q.len c,.int .i64 want,.bool false] 116)).heap.size/\Below w.heap.size w (w1.alloc (.cells #[.int .i64 kind,.int .i64 n,.int .i64 r,.slice A q.len c,.int .i64 want,.bool false] 116))):=
   aZ ⟨by simp;have:=HB.out.1;omega,HB.out.2.alloc (by have:=HB.out.1;omega) _⟩
  generalize w1.alloc (.cells #[.int .i64 kind,.int .i64 n,.int .i64 r,.slice A q.len c,.int .i64 want,.bool false] 116)=W1 at*
  generalize w1.heap.size=g1 at*
  clear HB p0 p1 p2 p3
  go_loopw [7,8] (λvo va wr=>∃(T:List SN) (g cap at':Nat),vo=.slice (some ⟨g,0,none⟩) T.length cap/\va=.int .i64 at'/\at'+sizeS T<=64/\Hid (wr.ownsRow w.heap.size 116 6 (.slice (some ⟨g,0,none⟩) T.length cap) T.length (snL T.reverse))/\
   Hid (∀x∈T,x.Ok w)/\Hid (badS T=E)/\Hid (w.heap.size<wr.heap.size/\Below w.heap.size w wr)) (λ_ va _=>65-(intOf va).toNat)
  case atStart=>
   refine⟨[⟨kind,n,r,q,A,c,want,false⟩],g1,1,0,rfl,rfl,?_,HO1,aZ ?_,aZ ?_,HB1⟩
   ·have:=HY.out
    simp only[sizeS]
    omega
   ·intro x hx
    simp only[List.mem_cons,List.not_mem_nil,or_false] at hx
    subst hx
    exact⟨HK.out,HW.out.1,HW.out.2⟩
   ·rw[<-HE.out]
    exact badS_one _
  case round=>
   obtain⟨T,g,cap,at',rfl,rfl,hat,hown,hok,hbad,hbw⟩:=hrel
   clear HO1 HB1
   rcases T with _|⟨x,T⟩
   ·
    have HE0:Hid (E=0):=aZ (by rw[<-hbad.out];rfl)
    clear hown hok hbad
    go_wp2
    go_ret2
    exact⟨⟨_,by rw[HE0.out];rfl⟩,hbw.out.2⟩
   ·obtain⟨k,hk⟩:∃k,T.length=k:=⟨_,rfl⟩
    rw[List.length_cons,hk] at hown|-
    have hxo:=hok.out x (List.mem_cons_self ..)
    have HXO:=aZ hxo
    have HTO:Hid (∀y∈T,y.Ok w):=aZ (λy hy=>hok.out y (List.mem_cons_of_mem _ hy))
    have hown':=hown.out
    rw[snL_push] at hown'
    have hsl:(snL T.reverse).length=k*6:=by rw[snL_len,List.length_reverse,hk]
    have c0:=owns_at hown' hsl 0 (by omega)
    have c1:=owns_at hown' hsl 1 (by omega)
    have c2:=owns_at hown' hsl 2 (by omega)
    have c3:=owns_at hown' hsl 3 (by omega)
    have c4:=owns_at hown' hsl 4 (by omega)
    have c5:=owns_at hown' hsl 5 (by omega)
    obtain⟨hc1,hc2,hc3,hc4⟩:=owns_cap hown'
    have HPOP:=aZ (ownsRow_pop hsl hown')
    have HKL:=aZ hk
    have hk64:k<=64:=by
     have:=len_sizeS T
     rw[hk] at this
     simp only[sizeS] at hat
     omega
    have HAT:Hid (at'+(1+x.q.count+sizeS T)<=64):=aZ (by simpa[sizeS] using hat)
    obtain⟨kx,nx,rx,qx,Ax,cx,wx,bx⟩:=x
    simp only[SN.cells,List.getElem?_cons_zero,List.getElem?_cons_succ,Nat.add_zero] at c0 c1 c2 c3 c4 c5
    have hnode:=λw=>Node_any kx nx rx Ax qx.len cx wx bx w HXO.out.2.1 HXO.out.2.2
    have HBD:=aZ hbad.out
    have hcapL:k<=cap:=by omega
    have HGB:Hid (w.heap.size<=g/\g<wr.heap.size):=aZ ⟨hc3,hc4⟩
    have hat64:at'<=64:=by have:=HAT.out;omega
    have hcapM:cap<=maxLen:=hc2
    unfold maxLen at hcapM
    obtain⟨e,he⟩:∃e,nodeE kx nx rx qx.len wx bx=e:=⟨_,rfl⟩
    rw[he] at hnode
    have HNE:=aZ he
    have HND:=aZ hnode
    clear hk hxo hown hown' hsl hc1 hc2 hc3 hc4 hok hbad hat hnode he
    go_wp2_with fail
    have hbox:=SnBox.new wr kx nx rx Ax qx.len cx wx bx 116
    have hB1:wr.heap.size<(wr.alloc (.cells #[.int .i64 kx,.int .i64 nx,.int .i64 rx,.slice Ax qx.len cx,.int .i64 wx,.bool bx] 116)).heap.size/\Below w.heap.size w (wr.alloc (.cells #[.int .i64 kx,.int .i64 nx,.int .i64 rx,.slice Ax qx.len cx,.int .i64 wx,.bool bx] 116)):=⟨by simp,hbw.out.2.alloc (by have:=hbw.out.1;omega) _⟩
    have hO1:=World.ownsRow.alloc HPOP.out (.cells #[.int .i64 kx,.int .i64 nx,.int .i64 rx,.slice Ax qx.len cx,.int .i64 wx,.bool bx] 116)
    generalize wr.alloc (.cells #[.int .i64 kx,.int .i64 nx,.int .i64 rx,.slice Ax qx.len cx,.int .i64 wx,.bool bx] 116)=W2 at*
    obtain⟨B,hB⟩:∃B,wr.heap.size=B:=⟨_,rfl⟩
    rw[hB] at hbox hB1 HGB hbw|-
    refine(HND.out _).mono ?_
    rintro z w2 ⟨rfl,hb2⟩
    have HBX2:=aZ (hbox.below hb2)
    have HO2:=aZ (owns_below hO1 hb2)
    have HB2:Hid (B<w2.heap.size/\Below w.heap.size w w2):=aZ ⟨Nat.lt_of_lt_of_le hB1.1 hb2.size,hB1.2.trans (hb2.mono (by have:=hB1.1;have:=hbw.out.1;omega))⟩
    have HWB:Hid (w.heap.size<B):=aZ hbw.out.1
    clear hbox hB1 hO1 hb2 c0 c1 c2 c3 c4 c5 HPOP HND hB hbw
    by_cases he:e=0
    ·subst he
     have hnz:=HNE.out
     obtain⟨-,-,-,hnw,-,hql,-⟩:=nodeE_zero hnz
     have hwn:=node_wants hnz HXO.out.2.1 HXO.out.2.2
     have hw4:=node_n4 hnz
     have hbk:SN.bad ⟨kx,nx,rx,qx,Ax,cx,wx,bx⟩=qx.bad (wantsF kx nx rx) (bx||kx==4):=bad_ok (x:=⟨kx,nx,rx,qx,Ax,cx,wx,bx⟩) hnz
     have HWA:=aZ (λw=>RWants_any kx nx rx Ax qx.len cx w (by have:=HXO.out.2.1;dsimp only at this;omega) (by have:=HXO.out.2.2;dsimp only at this;omega) hw4)
     have hlen:(wantsF kx nx rx).length<=2:=by
      unfold wantsF
      (repeat' split)<;>simp
     generalize wantsF kx nx rx=L at*
     obtain⟨m,hm⟩:∃m,L.length=m:=⟨_,rfl⟩
     rw[hm] at hlen hql
     have HM:=aZ hm
     have HQL:=aZ hql
     have HWN:=aZ hwn
     have HBK:=aZ hbk
     have HWC:Hid (∀w,Calls Try.prog 76 #[plV kx nx rx Ax qx.len cx] w (λz w'=>(∃A',z=.returned (.slice A' m m)/\IntsAt w' A' m (λi=>L.getD i 0)/\∀b o,A'=some ⟨b,o,none⟩->w.heap.size<=b)/\Below w.heap.size w w')):=aZ (λw=>by
      have:=HWA.out w
      unfold WantsC at this
      rw[HM.out] at this
      exact this)
     obtain⟨p0,p1,p2,p3,p4,p5⟩:=HBX2.out
     have hqli:((qx.len:Nat):Int)=m:=by omega
     have hmi:((m:Int)-1)=(m:Int)-1:=rfl
     clear HWA hnz hnw hwn hw4 hbk hm hql
     go_wp2_with fail
     refine(HWC.out _).mono ?_
     rintro z w3 ⟨⟨A',rfl,hA',hfr⟩,hb3⟩
     have HA:=aZ hA'
     have HFR:Hid (∀b o,A'=some ⟨b,o,none⟩->g≠b):=aZ (λb o e=>by have:=hfr b o e;have:=HGB.out.2;have:=HB2.out.1;omega)
     have HBX3:=aZ (HBX2.out.below hb3)
     have HO3:=aZ (owns_below HO2.out hb3)
     have HB3:Hid (B<w3.heap.size/\Below w.heap.size w w3):=aZ ⟨Nat.lt_of_lt_of_le HB2.out.1 hb3.size,HB2.out.2.trans (hb3.mono (by have:=HB2.out.1;have:=HWB.out;omega))⟩
     clear hA' hfr hb3 p0 p1 p2 p3 p4 p5 HBX2 HO2 HB2 HWC hmi
     have hwm:wrap64 ((m:Int)-1)=(m:Int)-1:=by unfold wrap64;omega
     go_wp2
     go_loopw [7,12] (λvo vi wi=>∃(j:Nat) (ks:List SN) (g' cap':Nat),j<=m/\vi=.int .i64 ((j:Int)-1)/\vo=.slice (some ⟨g',0,none⟩) (ks++T).length cap'/\
      Hid (wi.ownsRow w.heap.size 116 6 (.slice (some ⟨g',0,none⟩) (ks++T).length cap') (ks++T).length (snL (ks++T).reverse))/\Hid (g'≠B/\∀b o,A'=some ⟨b,o,none⟩->g'≠b)/\
      Hid (∀y∈ks,y.Ok w)/\Hid (badS ks=(qx.drop j).bad (L.drop j) (bx||kx==4))/\Hid (sizeS ks=(qx.drop j).count)/\Hid (SnBox wi B kx nx rx Ax qx.len cx wx bx)/\Hid (IntsAt wi A' m (λi=>L.getD i 0))/\
      Hid (B<wi.heap.size/\Below w.heap.size w wi)) (λ_ vi _=>(intOf vi+1).toNat)
     case atStart=>
      refine⟨m,[],g,cap,Nat.le_refl _,rfl,by rw[List.nil_append,HKL.out],aZ (by rw[List.nil_append,HKL.out];exact HO3.out),aZ ⟨by have:=HGB.out.2;omega,HFR.out⟩,aZ (by simp),aZ ?_,aZ ?_,HBX3,HA,HB3⟩
      ·rw[drop_end qx m (by have:=HQL.out;omega)];rfl
      ·rw[drop_end qx m (by have:=HQL.out;omega)];rfl
     case round=>
      rename World=>wi
      obtain⟨j,ks,g',cap',hj,rfl,rfl,hown,hne,hks,hbs,hsz,hbx,hia,hbw⟩:=hrel
      clear HA HFR HBX3 HO3 HB3
      rcases j with _|i
      ·
       have HT:Hid (at'+1+sizeS (ks++T)<=64):=aZ (by rw[sizeS_app,hsz.out];show at'+1+(qx.count+sizeS T)<=64;have:=HAT.out;omega)
       have HK2:Hid (∀y∈ks++T,y.Ok w):=aZ (λy hy=>(List.mem_append.1 hy).elim (hks.out y) (HTO.out y))
       have HB2:Hid (badS (ks++T)=E):=aZ (by
        rw[<-HBD.out,badS_app,hbs.out]
        show(if qx.bad L _≠0 then qx.bad L _ else badS T)=if SN.bad _≠0 then SN.bad _ else badS T
        rw[HBK.out])
       have HBW:Hid (w.heap.size<wi.heap.size/\Below w.heap.size w wi):=aZ ⟨by have:=hbw.out.1;have:=HWB.out;omega,hbw.out.2⟩
       clear hne hks hbs hsz hbx hia hbw
       rw[show(((0:Nat):Int)-1)=-1 from rfl]
       go_wp2
       exact⟨⟨ks++T,g',cap',at'+1,rfl,by go_num,HT.out,hown,HK2,HB2,HBW⟩,by simp[intOf];omega⟩
      ·rw[show(((i+1:Nat):Int)-1)=(i:Int) by omega]
       obtain⟨k',n',r',q',rest,hd⟩:=drop_lt i qx (by have:=HQL.out;omega)
       obtain⟨bA,oA,B',c',rfl,k0,k1,k2,k3,k5⟩:=HXO.out.1.at' hd
       obtain⟨bL,oL,rfl,cL⟩:=hia.out i (by omega)
       obtain⟨xv,hxv⟩:∃xv,L.getD i 0=xv:=⟨_,rfl⟩
       have cL':wi.cell? ⟨bL,oL+i,none⟩=some (.int .i64 xv):=by rw[<-hxv];exact cL
       obtain⟨p0,p1,p2,p3,p4,p5⟩:=hbx.out
       have j0:=keep_cell hbw.out.2 k0
       have j1:=keep_cell hbw.out.2 k1
       have j2:=keep_cell hbw.out.2 k2
       have j3:=keep_cell hbw.out.2 k3
       have HXV:Hid (1<=xv/\xv<=32768):=aZ (by
        rw[<-hxv]
        refine HWN.out _ ?_
        rw[List.getD_eq_getElem?_getD,List.getElem?_eq_getElem (by have:=HM.out;omega)]
        exact List.getElem_mem _)
       have hbd:=bad_drop hd L (bx||kx==4)
       rw[hxv] at hbd
       have hct:=count_drop hd
       have HXK:Hid (SN.Ok w ⟨k',n',r',q',B',c',xv,bx||kx==4⟩):=aZ ⟨k5,HXV.out⟩
       have HNS:Hid (badS (⟨k',n',r',q',B',c',xv,bx||kx==4⟩::ks)=(qx.drop i).bad (L.drop i) (bx||kx==4)/\sizeS (⟨k',n',r',q',B',c',xv,bx||kx==4⟩::ks)=(qx.drop i).count):=aZ ⟨by rw[hbd,<-hbs.out];rfl,by rw[hct,<-hsz.out];rfl⟩
       have hiq:(i:Int)<(qx.len:Int):=by have:=HQL.out;omega
       have him:(i:Int)<(m:Int):=by omega
       obtain⟨kk,hkk⟩:∃kk,(ks++T).length=kk:=⟨_,rfl⟩
       have hkk64:kk<=128:=by
        have h1:=len_sizeS (ks++T)
        rw[sizeS_app,hsz.out] at h1
        have h2:=count_drop_le qx (i+1)
        have:=HAT.out
        omega
       rw[hkk] at hown|-
       have HKK:=aZ hkk
       have HD:Hid ((qx.drop i).len=qx.len-i):=aZ (drop_len i qx)
       have HBI:Hid (bL<wi.heap.size):=aZ (World.block_lt_of_cell? _ _ cL')
       have HKD:Hid (wi.cell? ⟨bL,oL+i,none⟩=some (.int .i64 xv)/\SnBox wi B kx nx rx (some ⟨bA,oA,none⟩) qx.len cx wx bx/\wi.cell? ⟨bA,oA+i*4,none⟩=some (.int .i64 k')/\wi.cell? ⟨bA,oA+i*4+1,none⟩=some (.int .i64 n')/\wi.cell? ⟨bA,oA+i*4+2,none⟩=some (.int .i64 r')/\wi.cell? ⟨bA,oA+i*4+3,none⟩=some (.slice B' q'.len c')):=aZ ⟨cL',hbx.out,j0,j1,j2,j3⟩
       obtain⟨b4,e4⟩:∃b4,(kx==4)=b4:=⟨_,rfl⟩
       have bs:=bs_seen
       rw[e4] at HNS HXK HBK hbs
       rw[e4]
       clear hxv cL k0 k1 k2 k3 k5 hbd hct hkk hd hbx
       have HW1:=HWB.out
       have HW2:=hbw.out.1
       cases bx
       ·go_upto_region 19 with(fail)
        clear cL' p0 p1 p2 p3 p4 p5 j0 j1 j2 j3
        refine wp_region_T (λw'=>w'.cell? ⟨bL,oL+i,none⟩=some (.int .i64 xv)/\w'.cell? ⟨B,0,none⟩=some (.int .i64 kx)/\w'.cell? ⟨B,1,none⟩=some (.int .i64 nx)/\w'.cell? ⟨B,2,none⟩=some (.int .i64 rx)/\w'.cell? ⟨B,3,none⟩=some (.slice (some ⟨bA,oA,none⟩) qx.len cx)/\w'.cell? ⟨B,4,none⟩=some (.int .i64 wx)/\w'.cell? ⟨B,5,none⟩=some (.bool false)/\w'.cell? ⟨bA,oA+i*4,none⟩=some (.int .i64 k')/\w'.cell? ⟨bA,oA+i*4+1,none⟩=some (.int .i64 n')/\w'.cell? ⟨bA,oA+i*4+2,none⟩=some (.int .i64 r')/\w'.cell? ⟨bA,oA+i*4+3,none⟩=some (.slice B' q'.len c')) 21 ⟨HKD.out.1,HKD.out.2.1.1,HKD.out.2.1.2.1,HKD.out.2.1.2.2.1,HKD.out.2.1.2.2.2.1,HKD.out.2.1.2.2.2.2.1,HKD.out.2.1.2.2.2.2.2,HKD.out.2.2.1,HKD.out.2.2.2.1,HKD.out.2.2.2.2.1,HKD.out.2.2.2.2.2⟩ (λhS0=>?_)
        refine Takes.intro [0,1,2,3,4,5,6,7,8,9,10,11,12,13] ?_
        repeat(refine Takes.go (v:=?_) hS0 ?_;try simp only[nrm,Act.put])
        refine Takes.nil ?_
        refine wpAnyS_takeG (i:=14) (v:=?_) (by kernel_rfl) rfl (λ_ _ _ h=>h) rfl hS0 (λw hSw=>by(try dsimp only at hSw);go_simp;try with_reducible rfl) ?_
        try simp only[nrm,Act.put]
        refine wpAnyS_takeG (i:=15) (v:=?_) (by kernel_rfl) rfl (λ_ _ _ h=>h) rfl hS0 (λw hSw=>by(try dsimp only at hSw);go_simp;try with_reducible rfl) ?_
        try simp only[nrm,Act.put]
        refine wpAnyS_takeG (i:=16) (v:=?_) (by kernel_rfl) rfl (λ_ _ _ h=>h) rfl hS0 (λw hSw=>by(try dsimp only at hSw);go_simp;try with_reducible rfl) ?_
        try simp only[nrm,Act.put]
        refine wpAnyS_takeG (i:=17) (v:=?_) (by kernel_rfl) rfl (λ_ _ _ h=>h) rfl hS0 (λw hSw=>by(try dsimp only at hSw);go_simp;try with_reducible rfl) ?_
        try simp only[nrm,Act.put]
        refine Takes.intro [18,19] ?_
        repeat(refine Takes.go (v:=?_) hS0 ?_;try simp only[nrm,Act.put])
        refine Takes.nil ?_
        refine wpAnyS_1 20 (λK hK=>?_)
        go_simp
        have hS1:=seen_keep hS0 ((Below.refl _ wi.drew).alloc (Nat.le_refl _) (.cells #[.int .i64 k',.int .i64 n',.int .i64 r',.slice B' q'.len c',.int .i64 xv,.bool b4] 116))
        refine hK.out _ _ (λ_=>hS1) ?_
        clear hK K
        try simp only[nrm,Act.put]
        refine wpAnyS_fin 2 21 ?_
        simp only[nrd]
        clear hS0 hS1
        have HBA:Hid (w.heap.size<=(wi.alloc (.cells #[.int .i64 k',.int .i64 n',.int .i64 r',.slice B' q'.len c',.int .i64 xv,.bool b4] 116)).drew.heap.size/\Below w.heap.size w (wi.alloc (.cells #[.int .i64 k',.int .i64 n',.int .i64 r',.slice B' q'.len c',.int .i64 xv,.bool b4] 116)).drew/\(wi.alloc (.cells #[.int .i64 k',.int .i64 n',.int .i64 r',.slice B' q'.len c',.int .i64 xv,.bool b4] 116)).drew.heap.size=wi.heap.size+1):=aZ ⟨by simp;omega,(hbw.out.2.alloc (by omega) _).drew,by simp⟩
        go_wp2_with (at_builtin;refine wpList_appL rfl _ _ 117 116 rfl 6 64 (.agg #[.int .i64 0,.int .i64 0,.int .i64 0,.slice none 0 0,.int .i64 0,.bool false]) Try.underlying117 info_seen rfl (by omega) (by omega) w.heap.size (.slice (some ⟨g',0,none⟩) kk cap') kk (snL (ks++T).reverse) rfl (World.ownsRow.drew (World.ownsRow.alloc hown.out _)) _ _ (SN.cells ⟨k',n',r',q',B',c',xv,b4⟩) rfl rfl (cells_six _ _ _ _ _ _ _ _ _ rfl) (one_six _) (by omega) HBA.out.1 ?_;intro g2 cap2 w4 hO hG hL)
        rw[<-snL_push] at hO
        have HAL:Hid (∀b o v,wi.cell? ⟨b,o,none⟩=some v->g'≠b->w4.cell? ⟨b,o,none⟩=some v):=aZ (λb o v hc hnb=>grown_cell hG.out (keep_cell ((Below.refl _ wi.drew).alloc (Nat.le_refl _) _) hc) (λe=>hnb (by cases e;rfl)))
        have HBX4:Hid (SnBox w4 B kx nx rx (some ⟨bA,oA,none⟩) qx.len cx wx false):=aZ (by obtain⟨a,b,c,d,e,f⟩:=HKD.out.2.1;exact⟨HAL.out _ _ _ a hne.out.1,HAL.out _ _ _ b hne.out.1,HAL.out _ _ _ c hne.out.1,HAL.out _ _ _ d hne.out.1,HAL.out _ _ _ e hne.out.1,HAL.out _ _ _ f hne.out.1⟩)
        have HIA4:Hid (IntsAt w4 (some ⟨bL,oL,none⟩) m (λi=>L.getD i 0)):=aZ (λt ht=>by obtain⟨b,o,e,hc⟩:=hia.out t ht;exact⟨b,o,e,HAL.out _ _ _ hc (hne.out.2 b o e)⟩)
        have HN4:Hid (g2≠B/\∀b o,(some ⟨bL,oL,none⟩:Option Addr)=some ⟨b,o,none⟩->g2≠b):=aZ (by
         rcases hL.out with h|h
         ·have h':g'=g2:=by simpa[Value.ownBlock] using h
          rw[<-h'];exact hne.out
         ·have:=HBA.out.2.2
          refine⟨by omega,λb o e=>?_⟩
          cases e
          have:=HBI.out
          omega)
        have HB4:Hid (B<w4.heap.size/\Below w.heap.size w w4):=aZ ⟨by have:=hG.out.size;have:=HBA.out.2.2;omega,owns_grow (World.ownsRow.drew (World.ownsRow.alloc hown.out _)) HBA.out.2.1 hG.out HBA.out.1⟩
        have HKN:Hid (∀y∈(⟨k',n',r',q',B',c',xv,b4⟩::ks:List SN),y.Ok w):=aZ (λy hy=>by rcases List.mem_cons.1 hy with rfl|h;exact HXK.out;exact hks.out y h)
        have hkl:((⟨k',n',r',q',B',c',xv,b4⟩::ks:List SN)++T).length=kk+1:=by rw[List.cons_append,List.length_cons,HKK.out]
        have HON:Hid (w4.ownsRow w.heap.size 116 6 (.slice (some ⟨g2,0,none⟩) ((⟨k',n',r',q',B',c',xv,b4⟩::ks:List SN)++T).length cap2) ((⟨k',n',r',q',B',c',xv,b4⟩::ks:List SN)++T).length (snL ((⟨k',n',r',q',B',c',xv,b4⟩::ks:List SN)++T).reverse)):=aZ (by rw[hkl];exact hO.out)
        have HKL2:=aZ hkl
        clear hO hG hL HAL HBA hne hks hbs hsz hia hbw hown hkl HKD
        go_wp2
        exact⟨⟨i,⟨k',n',r',q',B',c',xv,b4⟩::ks,g2,cap2,by omega,by first|rfl|go_num,by rw[HKL2.out],HON,HN4,HKN,aZ HNS.out.1,aZ HNS.out.2,HBX4,HIA4,HB4⟩,by simp[intOf]⟩
       ·go_upto_region 19 with(fail)
        clear cL' p0 p1 p2 p3 p4 p5 j0 j1 j2 j3
        refine wp_region_T (λw'=>w'.cell? ⟨bL,oL+i,none⟩=some (.int .i64 xv)/\w'.cell? ⟨B,0,none⟩=some (.int .i64 kx)/\w'.cell? ⟨B,1,none⟩=some (.int .i64 nx)/\w'.cell? ⟨B,2,none⟩=some (.int .i64 rx)/\w'.cell? ⟨B,3,none⟩=some (.slice (some ⟨bA,oA,none⟩) qx.len cx)/\w'.cell? ⟨B,4,none⟩=some (.int .i64 wx)/\w'.cell? ⟨B,5,none⟩=some (.bool true)/\w'.cell? ⟨bA,oA+i*4,none⟩=some (.int .i64 k')/\w'.cell? ⟨bA,oA+i*4+1,none⟩=some (.int .i64 n')/\w'.cell? ⟨bA,oA+i*4+2,none⟩=some (.int .i64 r')/\w'.cell? ⟨bA,oA+i*4+3,none⟩=some (.slice B' q'.len c')) 21 ⟨HKD.out.1,HKD.out.2.1.1,HKD.out.2.1.2.1,HKD.out.2.1.2.2.1,HKD.out.2.1.2.2.2.1,HKD.out.2.1.2.2.2.2.1,HKD.out.2.1.2.2.2.2.2,HKD.out.2.2.1,HKD.out.2.2.2.1,HKD.out.2.2.2.2.1,HKD.out.2.2.2.2.2⟩ (λhS0=>?_)
        refine Takes.intro [0,1,2,3,4,5,6,7,8,9,10,11,12,13] ?_
        repeat(refine Takes.go (v:=?_) hS0 ?_;try simp only[nrm,Act.put])
        refine Takes.nil ?_
        refine wpAnyS_skipG (i:=14) (by kernel_rfl) rfl (λ_ _ _ h=>h) rfl hS0 ?_
        try simp only[nrm,Act.put]
        refine wpAnyS_skipG (i:=15) (by kernel_rfl) rfl (λ_ _ _ h=>h) rfl hS0 ?_
        try simp only[nrm,Act.put]
        refine wpAnyS_skipG (i:=16) (by kernel_rfl) rfl (λ_ _ _ h=>h) rfl hS0 ?_
        try simp only[nrm,Act.put]
        refine wpAnyS_skipG (i:=17) (by kernel_rfl) rfl (λ_ _ _ h=>h) rfl hS0 ?_
        try simp only[nrm,Act.put]
        refine Takes.intro [18,19] ?_
        repeat(refine Takes.go (v:=?_) hS0 ?_;try simp only[nrm,Act.put])
        refine Takes.nil ?_
        refine wpAnyS_1 20 (λK hK=>?_)
        go_simp
        have hS1:=seen_keep hS0 ((Below.refl _ wi.drew).alloc (Nat.le_refl _) (.cells #[.int .i64 k',.int .i64 n',.int .i64 r',.slice B' q'.len c',.int .i64 xv,.bool true] 116))
        refine hK.out _ _ (λ_=>hS1) ?_
        clear hK K
        try simp only[nrm,Act.put]
        refine wpAnyS_fin 2 21 ?_
        simp only[nrd]
        clear hS0 hS1
        have HBA:Hid (w.heap.size<=(wi.alloc (.cells #[.int .i64 k',.int .i64 n',.int .i64 r',.slice B' q'.len c',.int .i64 xv,.bool true] 116)).drew.heap.size/\Below w.heap.size w (wi.alloc (.cells #[.int .i64 k',.int .i64 n',.int .i64 r',.slice B' q'.len c',.int .i64 xv,.bool true] 116)).drew/\(wi.alloc (.cells #[.int .i64 k',.int .i64 n',.int .i64 r',.slice B' q'.len c',.int .i64 xv,.bool true] 116)).drew.heap.size=wi.heap.size+1):=aZ ⟨by simp;omega,(hbw.out.2.alloc (by omega) _).drew,by simp⟩
        go_wp2_with (at_builtin;refine wpList_appL rfl _ _ 117 116 rfl 6 64 (.agg #[.int .i64 0,.int .i64 0,.int .i64 0,.slice none 0 0,.int .i64 0,.bool false]) Try.underlying117 info_seen rfl (by omega) (by omega) w.heap.size (.slice (some ⟨g',0,none⟩) kk cap') kk (snL (ks++T).reverse) rfl (World.ownsRow.drew (World.ownsRow.alloc hown.out _)) _ _ (SN.cells ⟨k',n',r',q',B',c',xv,true⟩) rfl rfl (cells_six _ _ _ _ _ _ _ _ _ rfl) (one_six _) (by omega) HBA.out.1 ?_;intro g2 cap2 w4 hO hG hL)
        rw[<-snL_push] at hO
        have HAL:Hid (∀b o v,wi.cell? ⟨b,o,none⟩=some v->g'≠b->w4.cell? ⟨b,o,none⟩=some v):=aZ (λb o v hc hnb=>grown_cell hG.out (keep_cell ((Below.refl _ wi.drew).alloc (Nat.le_refl _) _) hc) (λe=>hnb (by cases e;rfl)))
        have HBX4:Hid (SnBox w4 B kx nx rx (some ⟨bA,oA,none⟩) qx.len cx wx true):=aZ (by obtain⟨a,b,c,d,e,f⟩:=HKD.out.2.1;exact⟨HAL.out _ _ _ a hne.out.1,HAL.out _ _ _ b hne.out.1,HAL.out _ _ _ c hne.out.1,HAL.out _ _ _ d hne.out.1,HAL.out _ _ _ e hne.out.1,HAL.out _ _ _ f hne.out.1⟩)
        have HIA4:Hid (IntsAt w4 (some ⟨bL,oL,none⟩) m (λi=>L.getD i 0)):=aZ (λt ht=>by obtain⟨b,o,e,hc⟩:=hia.out t ht;exact⟨b,o,e,HAL.out _ _ _ hc (hne.out.2 b o e)⟩)
        have HN4:Hid (g2≠B/\∀b o,(some ⟨bL,oL,none⟩:Option Addr)=some ⟨b,o,none⟩->g2≠b):=aZ (by
         rcases hL.out with h|h
         ·have h':g'=g2:=by simpa[Value.ownBlock] using h
          rw[<-h'];exact hne.out
         ·have:=HBA.out.2.2
          refine⟨by omega,λb o e=>?_⟩
          cases e
          have:=HBI.out
          omega)
        have HB4:Hid (B<w4.heap.size/\Below w.heap.size w w4):=aZ ⟨by have:=hG.out.size;have:=HBA.out.2.2;omega,owns_grow (World.ownsRow.drew (World.ownsRow.alloc hown.out _)) HBA.out.2.1 hG.out HBA.out.1⟩
        have HKN:Hid (∀y∈(⟨k',n',r',q',B',c',xv,true⟩::ks:List SN),y.Ok w):=aZ (λy hy=>by rcases List.mem_cons.1 hy with rfl|h;exact HXK.out;exact hks.out y h)
        have hkl:((⟨k',n',r',q',B',c',xv,true⟩::ks:List SN)++T).length=kk+1:=by rw[List.cons_append,List.length_cons,HKK.out]
        have HON:Hid (w4.ownsRow w.heap.size 116 6 (.slice (some ⟨g2,0,none⟩) ((⟨k',n',r',q',B',c',xv,true⟩::ks:List SN)++T).length cap2) ((⟨k',n',r',q',B',c',xv,true⟩::ks:List SN)++T).length (snL ((⟨k',n',r',q',B',c',xv,true⟩::ks:List SN)++T).reverse)):=aZ (by rw[hkl];exact hO.out)
        have HKL2:=aZ hkl
        clear hO hG hL HAL HBA hne hks hbs hsz hia hbw hown hkl HKD
        go_wp2
        exact⟨⟨i,⟨k',n',r',q',B',c',xv,true⟩::ks,g2,cap2,by omega,by first|rfl|go_num,by rw[HKL2.out],HON,HN4,HKN,aZ HNS.out.1,aZ HNS.out.2,HBX4,HIA4,HB4⟩,by simp[intOf]⟩
    ·
     have HE1:Hid (E=e):=aZ (by
      have:=bad_no (x:=⟨kx,nx,rx,qx,Ax,cx,wx,bx⟩) (by dsimp only;rw[HNE.out];exact he)
      dsimp only at this
      rw[HNE.out] at this
      rw[<-HBD.out,badS,if_pos (by rw[this];exact he),this])
     have hei:(e != 0)=true:=by simpa using he
     clear he HO2 HBX2
     go_wp2
     go_ret2
     exact⟨⟨_,by rw[HE1.out];rfl⟩,HB2.out.2⟩
end Go.Proofs.Yteaimnemobnknaa
