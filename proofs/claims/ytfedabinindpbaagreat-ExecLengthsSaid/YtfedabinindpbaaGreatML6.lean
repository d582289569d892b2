/- Lengths, plain: the two sums of squares. -/
import Derived.Test.YtfedabinindpbaaGreatML5
import Derived.Test.YtfedabinindpbaaGreatML3
import Derived.Test.YtfedabinindpbaaGreatML4
import Derived.Test.YtfedabinindpbaaGreatX0
import Derived.Test.YtfedabinindpbaaGreatAM6
import Derived.Test.YtfedabinindpbaaGreatMO2
set_option linter.unusedSimpArgs false
set_option linter.unusedVariables false
set_option maxRecDepth 100000
set_option maxHeartbeats 4000000
namespace Go.Proofs.YtfedabinindpbaaGreat
namespace CG
open Fl
def sqS(f:Nat->Nat)(a b:Nat):Nat->Rat
 |0=>0
 |n+1=>sqS f a b n+vS (f n) a b*vS (f n) a b
theorem sqS_succ(f:Nat->Nat)(a b n:Nat):sqS f a b (n+1)=sqS f a b n+vS (f n) a b*vS (f n) a b:=rfl
theorem sq_nn(v:Rat):0<=v*v:=by
 rcases(show 0<=v\/0<=-v by grind) with h|h
 ·exact Rat.mul_nonneg h h
 ·have:=Rat.mul_nonneg h h;grind
theorem sqS_nn(f:Nat->Nat)(a b n:Nat):0<=sqS f a b n:=by
 induction n with
 |zero=>exact Rat.le_refl
 |succ n ih=>have:=sq_nn (vS (f n) a b);rw[sqS_succ];grind
theorem sqS_le(f:Nat->Nat)(a b:Nat){n m:Nat}(h:n<=m):sqS f a b n<=sqS f a b m:=by
 induction m with
 |zero=>obtain rfl:n=0:=by omega
        exact Rat.le_refl
 |succ m ih=>
   rcases(show n<=m\/n=m+1 by omega) with g|rfl
   ·have:=ih g
    have:=sq_nn (vS (f m) a b);rw[sqS_succ];grind
   ·exact Rat.le_refl
theorem sqS_ge(f:Nat->Nat)(a b:Nat){i n:Nat}(hi:i<n):vS (f i) a b*vS (f i) a b<=sqS f a b n:=by
 have h1:=sqS_le f a b (show i+1<=n by omega)
 have h2:=sqS_nn f a b i
 rw[sqS_succ] at h1
 grind
theorem sqS_up(f:Nat->Nat)(a b n:Nat)(h:∀i,i<n->vS (f i) a b<=1/\-vS (f i) a b<=1):sqS f a b n<=(n:Rat):=by
 induction n with
 |zero=>exact Rat.le_refl
 |succ n ih=>
   obtain⟨h1,h2⟩:=h n (by omega)
   have h3:=ih (λi hi=>h i (by omega))
   have:=Rat.mul_nonneg (a:=1-vS (f n) a b) (b:=1+vS (f n) a b) (by grind) (by grind)
   rw[sqS_succ,Rat.natCast_add]
   grind
theorem sqS_congr{f g:Nat->Nat}(a b n:Nat)(h:∀i,i<n->f i=g i):sqS f a b n=sqS g a b n:=by
 induction n with
 |zero=>rfl
 |succ n ih=>rw[sqS_succ,sqS_succ,ih (λi hi=>h i (by omega)),h n (by omega)]
theorem sqS_split(f:Nat->Nat)(a b n m:Nat):sqS f a b (n+m)=sqS f a b n+sqS (λi=>f (n+i)) a b m:=by
 induction m with
 |zero=>show _=_+(0:Rat);rw[Nat.add_zero];grind
 |succ m ih=>rw[<-Nat.add_assoc,sqS_succ,sqS_succ,ih];grind
def SumN(S A c:Rat)(s:Nat):Prop:=Fnt s/\rv s-A<=c*S/\A-rv s<=c*S
theorem rv_zero:rv 0=0:=by unfold rv;rw[show iv 0=0 by decide+kernel];grind
theorem SumN.zero(S:Rat):SumN S 0 0 0:=by refine⟨by decide,?_,?_⟩<;>(rw[rv_zero];grind)
theorem two_small{p v:Rat}(v1:v<=1)(v2:-v<=1)(h1:p-v<=1)(h2:v-p<=1):p*p<=4/\0<=p*p:=by
 have:=Rat.mul_nonneg (a:=2-p) (b:=2+p) (by grind) (by grind)
 exact⟨by grind,sq_nn p⟩
theorem m_small{u l P m:Rat}(u0:0<=u)(u1:u<=1/1024)(l0:0<=l)(l1:l<=1)(hP:0<=P)(hP2:P<=4)(h:(m-P)*(m-P)<=2*(u*u*(P*P))+l*l):m<=6/\-m<=6:=by
 obtain⟨h1,h2⟩:=sq_err u0 l0 hP h
 have:=Rat.mul_le_mul_of_nonneg_left hP2 u0
 constructor<;>grind
theorem fmul_ok{p:Nat}(fp:Fnt p){v:Rat}(v1:v<=1)(v2:-v<=1)(h1:rv p-v<=2*ul)(h2:v-rv p<=2*ul):
  fmul p p=some (fM p p)/\Fnt (fM p p)/\(rv (fM p p)-rv p*rv p)*(rv (fM p p)-rv p*rv p)<=2*(uu*uu*(rv p*rv p*(rv p*rv p)))+ul*ul/\rv (fM p p)<=6/\-rv (fM p p)<=6:=by
 obtain⟨ll,l0,lu⟩:=ul_uu
 have hu:=uu_small
 have ho:=om_big
 obtain⟨p4,p0⟩:=two_small (p:=rv p) v1 v2 (by grind) (by grind)
 obtain⟨e1,e2⟩:=mul_ok fp fp (by grind) (by grind)
 obtain⟨m1,m2⟩:=m_small (m:=rv (fM p p)) (Rat.le_of_lt hu.1) lu l0 (by grind) p0 p4 e2
 exact⟨fM_some fp fp rfl,e1,e2,m1,m2⟩
theorem fA_some{x y:Nat}(hx:Fnt x)(hy:Fnt y)(h1:rv x+rv y<om)(h2:-om<rv x+rv y):fadd x y=some (fA x y):=by
 obtain⟨ux,hu⟩:=ul_unit
 have e:rv x+rv y=((iv x+iv y:Int):Rat)*ul:=by unfold rv;rw[Rat.intCast_add];grind
 rw[om_eq,e] at h1 h2
 have hb:=abs_lt h1 h2
 obtain⟨z,hz,fz,vz⟩:=fadd_spec hx hy hb
 have ez:fA x y=z:=by
  have:fadd x y=Ieee.double.add x y:=rfl
  unfold fA fN
  rw[<-this,hz];rfl
 rw[ez]
 exact hz
theorem SumN.step{S A c:Rat}{s p:Nat}{v:Rat}(hS:1/4<=S)(hS2:S<=120)(c0:0<=c)(c1:c<=1/4)(hA0:0<=A)(hA:A+v*v<=S)(h:SumN S A c s)(fp:Fnt p)(v1:v<=1)(v2:-v<=1)(h1:rv p-v<=2*ul)(h2:v-rv p<=2*ul):
  fmul p p=some (fM p p)/\fadd s (fM p p)=some (fA s (fM p p))/\SumN S (A+v*v) (c+8*uu) (fA s (fM p p)):=by
 obtain⟨fs,s1,s2⟩:=h
 obtain⟨ll,l0,lu⟩:=ul_uu
 have hu:=uu_small
 have ho:=om_big
 obtain⟨a1,a2,a3,a4,a5⟩:=fmul_ok fp v1 v2 h1 h2
 have cS:=Rat.mul_le_mul_of_nonneg_right c1 (show 0<=S by grind)
 have b1:rv s<=150:=by have:=sq_nn v;grind
 have b2:-rv s<=150:=by have:=sq_nn v;grind
 obtain⟨d1,d2⟩:=add_ok fs a2 (by grind) (by grind)
 obtain⟨t1,t2⟩:=len_step hu.1 lu l0 ll hS c0 c1 hA0 hA s1 s2 v1 v2 h1 h2 a3 d2
 exact⟨a1,fA_some fs a2 (by grind) (by grind),d1,t1,t2⟩
theorem SumN.step2{S A c:Rat}{s p q:Nat}{v y:Rat}(hS:1/4<=S)(hS2:S<=120)(c0:0<=c)(c1:c<=1/4)(hA0:0<=A)(hA:A+(v*v+y*y)<=S)(h:SumN S A c s)(fp:Fnt p)(v1:v<=1)(v2:-v<=1)(h1:rv p-v<=2*ul)(h2:v-rv p<=2*ul)(fq:Fnt q)(y1:y<=1)(y2:-y<=1)(h3:rv q-y<=2*ul)(h4:y-rv q<=2*ul):
  fmul p p=some (fM p p)/\fmul q q=some (fM q q)/\fadd (fM p p) (fM q q)=some (fA (fM p p) (fM q q))/\fadd s (fA (fM p p) (fM q q))=some (fA s (fA (fM p p) (fM q q)))/\SumN S (A+(v*v+y*y)) (c+16*uu) (fA s (fA (fM p p) (fM q q))):=by
 obtain⟨fs,s1,s2⟩:=h
 obtain⟨ll,l0,lu⟩:=ul_uu
 have hu:=uu_small
 have ho:=om_big
 obtain⟨a1,a2,a3,a4,a5⟩:=fmul_ok fp v1 v2 h1 h2
 obtain⟨b1,b2,b3,b4,b5⟩:=fmul_ok fq y1 y2 h3 h4
 have cS:=Rat.mul_le_mul_of_nonneg_right c1 (show 0<=S by grind)
 have g1:rv s<=150:=by have:=sq_nn v;have:=sq_nn y;grind
 have g2:-rv s<=150:=by have:=sq_nn v;have:=sq_nn y;grind
 obtain⟨d1,d2⟩:=add_ok a2 b2 (by grind) (by grind)
 have w1:rv (fA (fM p p) (fM q q))<=30/\-rv (fA (fM p p) (fM q q))<=30:=by
  have hz:(rv (fM p p)+rv (fM q q))*(rv (fM p p)+rv (fM q q))<=12*12:=by
   have:=Rat.mul_nonneg (a:=12-(rv (fM p p)+rv (fM q q))) (b:=12+(rv (fM p p)+rv (fM q q))) (by grind) (by grind)
   grind
  have uu0:=Rat.mul_nonneg (Rat.le_of_lt hu.1) (Rat.le_of_lt hu.1)
  have hz2:=Rat.mul_le_mul_of_nonneg_left hz uu0
  have k1:=le_sqL (a:=rv (fA (fM p p) (fM q q))-(rv (fM p p)+rv (fM q q))) (b:=12*uu) (by grind) (by grind)
  constructor<;>grind
 obtain⟨e1,e2⟩:=add_ok fs d1 (by grind) (by grind)
 obtain⟨t1,t2⟩:=len_step2 hu.1 lu l0 ll hS c0 c1 hA0 hA s1 s2 v1 v2 h1 h2 y1 y2 h3 h4 a3 b3 d2 e2
 exact⟨a1,b1,fA_some a2 b2 (by grind) (by grind),fA_some fs d1 (by grind) (by grind),e1,t1,t2⟩
theorem zero_mul{p:Nat}(fp:Fnt p)(h:iv p=0):fmul p p=some (fM p p)/\Fnt (fM p p)/\iv (fM p p)=0:=by
 obtain⟨r,hr,fr,vr⟩:=fmul_whole fp fp (p:=0) (by rw[h];simp) (by rw[Int.natAbs_zero];exact Nat.two_pow_pos _)
 have:=fM_some fp fp rfl
 rw[hr] at this
 cases this
 exact⟨hr,fr,by rw[vr,rnd_zero]⟩
theorem zero_add{p q:Nat}(fp:Fnt p)(fq:Fnt q)(h:iv p=0)(g:iv q=0):fadd p q=some (fA p q)/\Fnt (fA p q)/\iv (fA p q)=0:=by
 obtain⟨r,hr,fr,vr⟩:=fadd_spec fp fq (by rw[h,g];exact Nat.two_pow_pos _)
 have e:=fA_some fp fq (by unfold rv;rw[h,g];have:=om_big;grind) (by unfold rv;rw[h,g];have:=om_big;grind)
 rw[hr] at e
 cases e
 exact⟨hr,fr,by rw[vr,h,g];exact rnd_zero⟩
def joinW(x y:Nat->Nat)(n i:Nat):Nat:=if i<n then x i else y (i-n)
theorem sqS_join(x y:Nat->Nat)(a b n:Nat):sqS (joinW x y n) a b (n+n)=sqS x a b n+sqS y a b n:=by
 rw[sqS_split]
 congr 1
 ·exact sqS_congr a b n (λi hi=>by unfold joinW;rw[if_pos hi])
 ·exact sqS_congr a b n (λi hi=>by unfold joinW;rw[if_neg (by omega)];congr 1;omega)
theorem top_bd{f:Nat->Nat}{n E:Nat}{K:Int}{a b:Nat}(hE:(E:Int)=K+1074)(ha:a=K.toNat)(hb:b=(-K).toNat)(h:∀i,i<n->(iv (f i)).natAbs<2^E):
  (∀i,i<n->(iv (f i)).natAbs*2^b<2^(U+a)):=by
 intro i hi
 have hU:=U_eq
 have e:U+a=E+b:=by omega
 rw[e,Nat.pow_add]
 exact Nat.mul_lt_mul_of_pos_right (h i hi) (Nat.two_pow_pos _)
theorem top_half{f:Nat->Nat}{i E:Nat}{K:Int}{a b:Nat}(hE:(E:Int)=K+1074)(ha:a=K.toNat)(hb:b=(-K).toNat)(h1:1<=E)(h:2^(E-1)<=(iv (f i)).natAbs):
  2^(U+a)<=2*((iv (f i)).natAbs*2^b):=by
 have hU:=U_eq
 have e:U+a=(E-1)+b+1:=by omega
 rw[e,Nat.pow_succ,Nat.pow_add,Nat.mul_comm]
 exact Nat.mul_le_mul_left 2 (Nat.mul_le_mul_right _ h)
end CG
end Go.Proofs.YtfedabinindpbaaGreat
namespace Go.Proofs.YtfedabinindpbaaGreat
open Go.RowKit Go.Lib Fl
theorem sqrt_any(x r:Nat)(w:World)(h:fsqrt x=some r):Calls Tryz.prog 14 #[.float .f64 x] w λz w'=>z=.returned (.float .f64 r)/\w=w':=by
 have hs:∀w,(callFunc 39 #[.float .f64 x]).run Tryz.prog w=.ok (.value (.float .f64 r)) w:=by
  intro w
  have hr:Extern.MathSqrt.sqrt #[.float .f64 x]=pure (.float .f64 r):=by
   have h':FloatKind.f64.format.sqrt x=some r:=h
   show(match FloatKind.f64.format.sqrt x with|some r=>(pure (.float .f64 r):Sem Value)|none=>do pure (.float .f64 (<-choose (.nanBits .f64 x x))))=_
   rw[h']
  rw[run_callFunc_extern Tryz.func39 (by kernel_rfl) (by kernel_rfl) (by kernel_rfl) (e:=Extern.MathSqrt.sqrt) (by kernel_rfl),hr];rfl
 go_enter Tryz.func14,Tryz.ntmps14
 go_wp2
 go_ret
 exact⟨rfl,rfl⟩
theorem nz_fin{u:Nat}(h:Fnt (nz u))(hu:u<18446744073709551616):nz u=u:=by
 unfold nz at h|-
 split at h
 ·exact absurd h (by decide)
 ·rename_i k;rw[if_neg k]
theorem TopIs.congr{f g:Nat->Nat}{n:Nat}{K:Int}(h:TopIs f n K true)(e:∀i,i<n->f i=g i):TopIs g n K true:=by
 rcases h with⟨h,-⟩|⟨-,h1,E,h2,h3,h4,h5⟩
 ·cases h
 ·refine .inr ⟨rfl,λi hi=>by rw[<-e i hi];exact h1 i hi,E,h2,h3,λi hi=>by rw[<-e i hi];exact h4 i hi,?_⟩
  rcases h5 with h|⟨i,hi,h⟩
  ·exact .inl h
  ·exact .inr ⟨i,hi,by rw[<-e i hi];exact h⟩
theorem Length_any(X:Option Addr)(n cx:Nat)(x:Nat->Cx)(w:World)(hX:CsAt w X n x)(hn:n<=60)(F:Nat->Int->Prop)(hbad:(¬∀i,i<n->Fnt (x i).1/\Fnt (x i).2)->F 13830554455654793216 0)(hgood:∀K,TopIs (CG.joinW (λi=>(x i).1) (λi=>(x i).2) n) (n+n) K true->∃I:Nat->Nat->Prop,I 0 0/\
   (∀i s,i<n+n->I i s->∃p m t,(∀w,Calls Tryz.prog 31 #[.float .f64 (CG.joinW (λi=>(x i).1) (λi=>(x i).2) n i),.int .i64 (-K)] w λz w'=>z=.returned (.float .f64 p)/\w=w')/\fmul p p=some m/\fadd s m=some t/\I (i+1) t)/\
   (∀s,I (n+n) s->(FloatKind.f64.format.order s 0==some Ordering.eq)=true/\F 0 0\/(FloatKind.f64.format.order s 0==some Ordering.eq)=false/\∃f,fsqrt s=some f/\F f K)):
  Calls Tryz.prog 9 #[.slice X n cx] w λz w'=>(∃f k,z=.returned (.tuple #[.float .f64 f,.int .i64 k])/\F f k)/\Below w.heap.size w w':=by
 have HP:=aZ (Parts_any X n cx x w hX (by omega))
 have HB:=aZ hbad
 have HG:=aZ hgood
 clear hX hbad hgood
 go_enter Tryz.func9,Tryz.ntmps9
 go_wp2_with fail
 refine(HP.out).mono ?_
 rintro z w1 ⟨u,v,L,M,rfl,oL,oM,hL,hM,hpr,hb⟩
 obtain⟨A1,c1,rfl,-,-,-⟩:=oL.fla
 obtain⟨A2,c2,rfl,-,-,-⟩:=oM.fla
 have OL:=aZ oL
 have OM:=aZ oM
 have HL:=aZ (And.intro hL (And.intro hM hpr))
 have HBB:=aZ hb
 have HP:=()
 clear oL oM hL hM hpr hb
 go_wp2_with (at_builtin;refine wpList_catL rfl _ _ rfl w.heap.size _ _ L M rfl OL.out rfl OM.out (by have:=HL.out;omega) HBB.out.size ?_;intro v' w2 hO hg)
 have HB2:Hid (Below w.heap.size w w2):=aZ (HBB.out.grown hg.out HBB.out.size (λk e=>(OL.out.lt k e).1))
 obtain⟨A,c,rfl,hA,-,-⟩:=hO.out.fla
 have hlen:(L++M).length=n+n:=by rw[List.length_append,HL.out.1,HL.out.2.1]
 rw[hlen] at hA|-
 obtain⟨W,hW⟩:∃W:Nat->Nat,W=λi=>(((L++M).getD i 0:Wd):Nat):=⟨_,rfl⟩
 rw[<-hW] at hA
 have HT:=aZ (λw hw=>Top_any A (n+n) c W w hw (by omega) (λi hi=>by rw[hW];exact((L++M).getD i 0).2))
 have HA:=aZ hA
 have HI:Hid (∀i,i<n->(W i<18446744073709551616/\nz (W i)=(x i).1)/\(W (n+i)<18446744073709551616/\nz (W (n+i))=(x i).2)):=aZ (by
  intro i hi
  obtain⟨e1,e2,e3⟩:=HL.out
  obtain⟨p1,p2⟩:=e3 i (by omega)
  rw[hW]
  refine⟨⟨((L++M).getD i 0).2,?_⟩,⟨((L++M).getD (n+i) 0).2,?_⟩⟩
  ·show nz ((L++M).getD i 0:Wd)=_
   rw[<-p1,List.getD_eq_getElem?_getD,List.getD_eq_getElem?_getD,List.getElem?_append_left (by omega)]
  ·show nz ((L++M).getD (n+i) 0:Wd)=_
   rw[<-p2,List.getD_eq_getElem?_getD,List.getD_eq_getElem?_getD,List.getElem?_append_right (by omega),show n+i-L.length=i by omega])
 clear hA hlen OL OM HL hO hg HBB hW
 refine(HT.out _ HA.out).mono ?_
 rintro z w3 ⟨⟨K,ok⟩,rfl,ht,rfl⟩
 rcases ht with⟨rfl,rfl,i,hi,hf⟩|⟨rfl,hF,hE⟩
 ·have BAD:Hid (F 13830554455654793216 0):=aZ (HB.out (λhall=>by
    have hfin:finB (W i)=true:=by
     rcases(show i<n\/∃j,j<n/\i=n+j by
      rcases Nat.lt_or_ge i n with h|h
      ·exact .inl h
      ·exact .inr ⟨i-n,by omega,by omega⟩) with h|⟨j,hj,rfl⟩
     ·obtain⟨⟨e1,e2⟩,-⟩:=HI.out i h
      have h2:=(hall i h).1
      rw[<-e2] at h2
      rw[nz_fin h2 e1] at h2
      exact(fin_low e1).2 h2
     ·obtain⟨-,⟨e1,e2⟩⟩:=HI.out j hj
      have h2:=(hall j hj).2
      rw[<-e2] at h2
      rw[nz_fin h2 e1] at h2
      exact(fin_low e1).2 h2
    rw[hfin] at hf;cases hf))
  clear hf HG HB HT HI
  go_wp2_with fail
  go_ret2
  exact⟨⟨_,_,rfl,BAD.out⟩,HB2.out⟩
 ·obtain⟨hK1,hK2⟩:-1074<=K/\K<=1024:=by
    obtain⟨E,e1,e2,-⟩:=hE
    omega
  have HWJ:Hid (∀i,i<n+n->W i=CG.joinW (λi=>(x i).1) (λi=>(x i).2) n i):=aZ (by
   intro i hi
   unfold CG.joinW
   split
   ·rename_i h
    show W i=(x i).1
    rw[<-((HI.out i h).1).2,CG.nz_fnt (hF i hi)]
   ·rename_i h
    obtain⟨j,hj,rfl⟩:∃j,j<n/\i=n+j:=⟨i-n,by omega,by omega⟩
    rw[show n+j-n=j by omega]
    show W (n+j)=(x j).2
    rw[<-((HI.out j hj).2).2,CG.nz_fnt (hF _ hi)])
  obtain⟨I,i0,istep,iend⟩:=HG.out K (TopIs.congr (.inr ⟨rfl,hF,hE⟩) HWJ.out)
  have I0:=aZ i0
  have IS:=aZ istep
  have IE:=aZ iend
  clear i0 istep iend HG HB HT HI hF hE
  go_wp2_with fail
  go_loopw [9,11,29] (λsm a i wr=>∃k s:Nat,k<=n+n/\i=.int .i64 k/\sm=.float .f64 s/\Hid (I k s)/\Hid (w2=wr)) (λ_ _ i _=>n+n-(intOf i).toNat)
  case atStart=>exact⟨0,0,by omega,rfl,rfl,I0,aZ rfl⟩
  case round=>
   obtain⟨k,s,hk,rfl,rfl,hI,hw⟩:=hrel
   obtain rfl:=hw.out
   by_cases hlt:k<n+n
   ·obtain⟨b,o,rfl,hc⟩:=HA.out k hlt
    obtain⟨p,m,t,hS,hm,ht,hI2⟩:=IS.out k s hlt hI.out
    rw[<-HWJ.out k hlt] at hS
    obtain⟨y,hy⟩:∃y,W k=y:=⟨_,rfl⟩
    rw[hy] at hc hS
    have HS:=aZ hS
    have HI2:=aZ hI2
    have hM:=hmulF hm
    have hT:=T.hadd ht
    have hkn:(k:Int)<((n+n:Nat):Int):=by omega
    clear hS hm ht hI2 hy
    go_wp2_with fail
    refine(HS.out _).mono ?_
    rintro z w' ⟨rfl,rfl⟩
    go_wp2_with (first|simp only[hM,hT]|fail)
    exact⟨⟨k+1,t,by omega,by go_num,rfl,HI2,aZ trivial⟩,by simp[intOf];omega⟩
   ·obtain rfl:k=n+n:=by omega
    rcases IE.out s hI.out with⟨z0,hF⟩|⟨z0,f,hf,hF⟩
    ·have HF:=aZ hF
     clear hF
     go_wp2_with fail
     go_ret2
     exact⟨⟨_,_,rfl,HF.out⟩,HB2.out⟩
    ·have HF:=aZ hF
     have HQ:=aZ (λw=>sqrt_any s f w hf)
     clear hF hf
     go_wp2_with fail
     refine(HQ.out _).mono ?_
     rintro z w' ⟨rfl,rfl⟩
     go_wp2_with fail
     go_ret2
     exact⟨⟨_,_,rfl,HF.out⟩,HB2.out⟩
end Go.Proofs.YtfedabinindpbaaGreat
