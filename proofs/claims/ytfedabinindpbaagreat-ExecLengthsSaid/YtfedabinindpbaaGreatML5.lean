/- eft.Scale of a finite float, where nothing overflows: a unit or two off (built on AL3). -/
import Derived.Test.YtfedabinindpbaaGreatML3
import Derived.Test.YtfedabinindpbaaGreatMA4
import Derived.Test.YtfedabinindpbaaGreatML4
import Derived.Test.YtfedabinindpbaaGreatX0
import Derived.Test.YtfedabinindpbaaGreatMH5
import Derived.Test.YtfedabinindpbaaGreatMH3
set_option linter.unusedSimpArgs false
set_option linter.unusedVariables false
set_option maxRecDepth 100000
set_option maxHeartbeats 2000000
namespace Go.Proofs.YtfedabinindpbaaGreat
open Go.RowKit Go.Lib Fl CG
def p2(n:Nat):Rat:=((2^n:Nat):Rat)
theorem p2_pos(n:Nat):0<p2 n:=Rat.natCast_pos.2 (Nat.two_pow_pos _)
theorem p2_int(n:Nat):(((2:Int)^n:Int):Rat)=p2 n:=by
 unfold p2
 rw[<-Rat.intCast_natCast,Int.natCast_pow]
 rfl
theorem iv_sw{s F m:Nat}(hs:s<2)(h1:1<=F)(h2:F<=2046)(hm:m<4503599627370496):
  Fnt (s*9223372036854775808+(F*4503599627370496+m))/\iv (s*9223372036854775808+(F*4503599627370496+m))=(if s=0 then 1 else-1)*(((4503599627370496+m:Nat):Int)*2^(F-1)):=by
 have hp:=iv_pos h1 h2 hm
 rcases(show s=0\/s=1 by omega) with rfl|rfl
 ·rw[Nat.zero_mul,Nat.zero_add,if_pos rfl,Int.one_mul]
  exact⟨fnt_pos h2 hm,hp⟩
 ·rw[Nat.one_mul,if_neg (by decide),iv_sgn (by omega),hp,Int.neg_mul,Int.one_mul]
  exact⟨fnt_neg h2 hm,rfl⟩
theorem same_pow{σ M v:Int}{u x y dd a b c:Nat}(hx:x*2^0=x)(h:v*2^dd=σ*(M*2^y))(e:u+a+dd=y+b+c):σ*(M*2^u)*2^a=v*2^b*2^c:=by
 have hd:(2:Int)^dd≠0:=by have:=pow_pos_int dd;omega
 refine Int.eq_of_mul_eq_mul_right hd ?_
 have e1:σ*(M*2^u)*2^a*2^dd=σ*M*2^(u+a+dd):=by rw[Int.pow_add,Int.pow_add];grind
 have e2:v*2^b*2^c*2^dd=v*2^dd*2^b*2^c:=by grind
 rw[e1,e2,h,e,Int.pow_add,Int.pow_add]
 grind
theorem abs_sw(s:Nat)(M:Nat)(E:Nat):((if s=0 then 1 else-1)*((M:Int)*2^E)).natAbs=M*2^E:=by
 rw[Int.natAbs_mul,Int.natAbs_mul,Int.natAbs_pow]
 split<;>simp
def NearS(x r a b:Nat):Prop:=Fnt r/\rv r*p2 a-rv x*p2 b<=2*ul*p2 a/\rv x*p2 b-rv r*p2 a<=2*ul*p2 a
theorem near_int{x r a b:Nat}(hr:Fnt r)(h1:iv r*2^a-iv x*2^b<=2*2^a)(h2:iv x*2^b-iv r*2^a<=2*2^a):NearS x r a b:=by
 have hu:=ul_unit.2
 have s1:=Rat.intCast_le_intCast.2 h1
 have s2:=Rat.intCast_le_intCast.2 h2
 rw[Rat.intCast_sub,Rat.intCast_mul,Rat.intCast_mul,Rat.intCast_mul,p2_int,p2_int,show((2:Int):Rat)=2 from rfl] at s1 s2
 have t1:=Rat.mul_le_mul_of_nonneg_right s1 (Rat.le_of_lt hu)
 have t2:=Rat.mul_le_mul_of_nonneg_right s2 (Rat.le_of_lt hu)
 unfold NearS rv
 refine⟨hr,?_,?_⟩<;>grind
theorem near_null{x a b:Nat}(hx:Fnt x)(h0:iv x=0):NearS x x a b:=by
 have hp:(0:Int)<=2*2^a:=Int.mul_nonneg (by decide) (Int.le_of_lt (pow_pos_int _))
 refine near_int hx ?_ ?_<;>rw[h0,Int.zero_mul,Int.zero_mul]<;>omega
theorem sq_abs2{d:Rat}{u:Rat}(hu:0<u)(h:d*d<=4*(u*u)):d<=2*u/\-d<=2*u:=by
 constructor
 ·apply Classical.byContradiction
  intro hc
  have h1:2*u<d:=by grind
  have:=Rat.mul_pos (a:=d-2*u) (b:=d+2*u) (by grind) (by grind)
  grind
 ·apply Classical.byContradiction
  intro hc
  have h1:2*u< -d:=by grind
  have:=Rat.mul_pos (a:=-d-2*u) (b:=-d+2*u) (by grind) (by grind)
  grind
theorem fM_some{x y r:Nat}(hx:Fnt x)(hy:Fnt y)(hr:fM x y=r):fmul x y=some r:=by
 obtain⟨s,m,k,h1,-⟩:=read_fin hx
 obtain⟨t,n,l,g1,-⟩:=read_fin hy
 have h:fmul x y=some (D.write (.number (s ^^ t) (m*n) ((k:Int)-1074+((l:Int)-1074)))):=by
  unfold fmul Ieee.Format.mul
  rw[h1,g1];rfl
 have e:Ieee.double.mul x y=fmul x y:=rfl
 rw[<-hr]
 unfold fM fN
 rw[e,h];rfl
theorem om_big2:4503599627370496*ul<om:=by
 have h:(9007199254740992:Rat)<=(((2^Bt:Nat):Nat):Rat):=by
  have:2^53<=2^Bt:=Nat.pow_le_pow_right (by decide) (by have:=Bt_eq;omega)
  have:=Rat.natCast_le_natCast.2 this
  exact this
 have hu:=ul_unit.2
 have:=Rat.mul_le_mul_of_nonneg_right h (Rat.le_of_lt hu)
 rw[om_eq]
 grind
theorem fin_near{u l P R A:Rat}(hu:0<l)(hq:u*9007199254740992=1/\0<u)(h1:P<=4503599627370496*l)(h2:-(4503599627370496*l)<=P)(er:(R-P)*(R-P)<=2*(u*u*(P*P))+l*l)(hA:0<=A):R*A-P*A<=2*l*A/\P*A-R*A<=2*l*A:=by
 have h0:=Rat.mul_nonneg (a:=4503599627370496*l-P) (b:=4503599627370496*l+P) (by grind) (by grind)
 have h7:P*P<=4503599627370496*l*(4503599627370496*l):=by grind
 have h8:=Rat.mul_le_mul_of_nonneg_left h7 (Rat.mul_nonneg (Rat.le_of_lt hq.2) (Rat.le_of_lt hq.2))
 have h9:u*u*(4503599627370496*l*(4503599627370496*l))=(u*9007199254740992)*(u*9007199254740992)*(l*l)/4:=by grind
 rw[h9,hq.1] at h8
 have h10:=Rat.mul_nonneg (Rat.le_of_lt hu) (Rat.le_of_lt hu)
 have hd:=sq_abs2 (d:=R-P) hu (by clear h9 h7 h0 h1 h2 hq hA;grind)
 have t1:=Rat.mul_le_mul_of_nonneg_right hd.1 hA
 have t2:=Rat.mul_le_mul_of_nonneg_right hd.2 hA
 clear hd er h8 h9 h7 h0
 constructor<;>grind
theorem ldexp_val{x:Nat}(hx:Fnt x)(k:Int)(k1:-3000<=k)(k2:k<=3000){a b K0:Nat}(ha:a=(-k).toNat)(hb:b=k.toNat)(hK0:K0=1075)(hlt:(iv x).natAbs*2^b<2^(K0+a)):
  ∃r,(∀w,Calls Tryz.prog 96 #[.float .f64 x,.int .i64 k] w λz w'=>z=.returned (.float .f64 r)/\w=w')/\NearS x r a b:=by
 have hab:(k:Int)=(b:Int)-(a:Int):=by omega
 have fz:Fnt 0:=by decide
 have o0:FloatKind.f64.format.order x 0=some (compare (iv x) 0):=by
  have:FloatKind.f64.format.order x 0=some (compare (iv x) (iv 0)):=order_spec hx fz
  rw[this,iv_zero]
 by_cases h0:iv x=0
 ·refine⟨x,λw=>ldexp_null x k w ?_,near_null hx h0⟩
  rw[o0,h0];rfl
 obtain⟨s,E,m,dd,hs,hE1,hE2,hm,hdd,C,ev⟩:=norm_word hx h0
 have c0:(FloatKind.f64.format.order x 0==some Ordering.eq)=false:=by
  rw[o0]
  rcases Int.lt_trichotomy (iv x) 0 with h|h|h
  ·rw[Int.compare_eq_lt.2 h];rfl
  ·exact absurd h h0
  ·rw[Int.compare_eq_gt.2 h];rfl
 have c1:=ord_self hx
 obtain⟨s',r',-,hr',-,-,em⟩:=word_split hx
 have c2:(FloatKind.f64.format.order (x%9223372036854775808) 9218868437227405311==some Ordering.gt)=false:=by
  rw[em,ord_nat hr' (by omega)]
  rcases Nat.lt_or_ge r' 9218868437227405311 with h|h
  ·rw[Nat.compare_eq_lt.2 h];rfl
  ·rw[Nat.compare_eq_eq.2 (by omega)];rfl
 have habs:=congrArg Int.natAbs ev
 rw[abs_sw,Int.natAbs_mul,Int.natAbs_pow,show(2:Int).natAbs=2 from rfl] at habs
 have hbig:k+-(dd:Int)+(E:Int)<=1023:=by
  apply Decidable.byContradiction
  intro hc
  have g1:(4503599627370496+m)*2^(E-1)*2^b<2^(K0+a)*2^dd:=by
   rw[<-habs]
   have:=Nat.mul_lt_mul_of_pos_right hlt (Nat.two_pow_pos dd)
   have e:(iv x).natAbs*2^dd*2^b=(iv x).natAbs*2^b*2^dd:=Nat.mul_right_comm _ _ _
   rw[e];exact this
  have g2:2^52*2^(E-1)*2^b<=(4503599627370496+m)*2^(E-1)*2^b:=Nat.mul_le_mul_right _ (Nat.mul_le_mul_right _ (by omega))
  rw[<-Nat.pow_add,<-Nat.pow_add] at g2
  rw[<-Nat.pow_add] at g1
  have g3:2^(K0+a+dd)<=2^(52+(E-1)+b):=Nat.pow_le_pow_right (by decide) (by omega)
  omega
 by_cases hA:k+-(dd:Int)+(E:Int)< -52
 ·refine⟨s*9223372036854775808,λw=>ldexp_A x s E m 0 k (-(dd:Int)) w hx.1 hs hE1 hE2 hm k1 k2 (by omega) (by omega) c0 c1 c2 C hA,?_⟩
  have fz2:Fnt (s*9223372036854775808)/\iv (s*9223372036854775808)=0:=by
   rcases(show s=0\/s=1 by omega) with rfl|rfl<;>exact⟨by decide,by decide+kernel⟩
  have hle:(iv x).natAbs*2^b<=2*2^a:=by
   apply Decidable.byContradiction
   intro hc
   have g1:2*2^a*2^dd<(4503599627370496+m)*2^(E-1)*2^b:=by
    rw[<-habs]
    have:=Nat.mul_lt_mul_of_pos_right (show 2*2^a<(iv x).natAbs*2^b by omega) (Nat.two_pow_pos dd)
    have e:(iv x).natAbs*2^dd*2^b=(iv x).natAbs*2^b*2^dd:=Nat.mul_right_comm _ _ _
    rw[e];exact this
   have g2:(4503599627370496+m)*2^(E-1)*2^b<=2^53*2^(E-1)*2^b:=Nat.mul_le_mul_right _ (Nat.mul_le_mul_right _ (by omega))
   rw[<-Nat.pow_add,<-Nat.pow_add] at g2
   have g4:2*2^a*2^dd=2^(1+a+dd):=by rw[Nat.pow_add,Nat.pow_add]
   have g3:2^(53+(E-1)+b)<=2^(1+a+dd):=Nat.pow_le_pow_right (by decide) (by omega)
   omega
  have hI:((iv x).natAbs:Int)*2^b<=2*2^a:=by
   have:=Int.ofNat_le.2 hle
   rw[Int.natCast_mul,Int.natCast_mul,Int.natCast_pow,Int.natCast_pow] at this
   exact this
  have hm1:iv x*2^b<=((iv x).natAbs:Int)*2^b:=Int.mul_le_mul_of_nonneg_right (by omega) (Int.le_of_lt (pow_pos_int _))
  have hm2:-iv x*2^b<=((iv x).natAbs:Int)*2^b:=Int.mul_le_mul_of_nonneg_right (by omega) (Int.le_of_lt (pow_pos_int _))
  rw[Int.neg_mul] at hm2
  refine near_int fz2.1 ?_ ?_<;>rw[fz2.2,Int.zero_mul]<;>omega
 by_cases hB:1<=k+-(dd:Int)+(E:Int)
 ·obtain⟨F,hF⟩:∃F:Nat,F=(k+-(dd:Int)+(E:Int)).toNat:=⟨_,rfl⟩
  obtain⟨fv,vv⟩:=@iv_sw s F m hs (by omega) (by omega) hm
  obtain⟨f1,v1⟩:=iv_one'
  have hb2:(iv (s*9223372036854775808+(F*4503599627370496+m))).natAbs<2^Bt:=by
   rw[vv,abs_sw]
   have h1:(4503599627370496+m)*2^(F-1)<2^53*2^(F-1):=Nat.mul_lt_mul_of_pos_right (by omega) (Nat.two_pow_pos _)
   rw[<-Nat.pow_add] at h1
   exact Nat.lt_of_lt_of_le h1 (Nat.pow_le_pow_right (by decide) (by have:=Bt_eq;omega))
  obtain⟨r,hr,fr,vr⟩:=fmul_whole f1 fv (p:=iv (s*9223372036854775808+(F*4503599627370496+m))) (by rw[v1,Int.mul_comm]) hb2
  rw[(rep_iv fv).rnd_eq,vv] at vr
  refine⟨r,λw=>ldexp_B x s E m r k (-(dd:Int)) w hx.1 hs hE1 hE2 hm k1 k2 (by omega) (by omega) c0 c1 c2 C hB (by omega) (by rw[<-hF];exact hr),?_⟩
  have:=same_pow (u:=F-1) (x:=0) (a:=a) (b:=b) (c:=0) rfl ev (by omega)
  rw[Int.pow_zero,Int.mul_one,<-vr] at this
  have hp:(0:Int)<=2*2^a:=Int.mul_nonneg (by decide) (Int.le_of_lt (pow_pos_int _))
  refine near_int fr ?_ ?_<;>rw[this]<;>omega
 ·obtain⟨F,hF⟩:∃F:Nat,F=(k+-(dd:Int)+(E:Int)+53).toNat:=⟨_,rfl⟩
  obtain⟨fv,vv⟩:=@iv_sw s F m hs (by omega) (by omega) hm
  obtain⟨f1,v1⟩:=iv_p53'
  have hu:=ul_unit.2
  obtain⟨V,hV⟩:∃V,s*9223372036854775808+(F*4503599627370496+m)=V:=⟨_,rfl⟩
  rw[hV] at fv vv
  have hVs:(iv V).natAbs<2^105:=by
   rw[vv,abs_sw]
   have h1:(4503599627370496+m)*2^(F-1)<2^53*2^(F-1):=Nat.mul_lt_mul_of_pos_right (by omega) (Nat.two_pow_pos _)
   rw[<-Nat.pow_add] at h1
   exact Nat.lt_of_lt_of_le h1 (Nat.pow_le_pow_right (by decide) (by omega))
  have ru:rv 4368491638549381120=uu:=by
   have e1:=congrArg (λz:Int=>(z:Rat)) v1
   simp only[Rat.intCast_mul] at e1
   have e2:=ul_unit.1
   rw[p2_int,show((9007199254740992:Int):Rat)=9007199254740992 from rfl] at e1
   have e3:=uu_eq.1
   have e4:rv 4368491638549381120*9007199254740992=1:=by
    unfold rv
    have:(iv 4368491638549381120:Rat)*ul*9007199254740992=ul*p2 U:=by rw[<-e1];grind
    rw[this];exact e2
   grind
  obtain⟨L,hL⟩:∃L:Rat,L=40564819207303340847894502572032:=⟨_,rfl⟩
  have hVr:rv V<=L*ul/\-(L*ul)<=rv V:=by
   have b1:iv V<=40564819207303340847894502572032:=by omega
   have b2:-40564819207303340847894502572032<=iv V:=by omega
   have s1:=Rat.mul_le_mul_of_nonneg_right (Rat.intCast_le_intCast.2 b1) (Rat.le_of_lt hu)
   have s2:=Rat.mul_le_mul_of_nonneg_right (Rat.intCast_le_intCast.2 b2) (Rat.le_of_lt hu)
   rw[show((40564819207303340847894502572032:Int):Rat)=L from hL.symm▸rfl] at s1
   rw[Rat.intCast_neg,show((40564819207303340847894502572032:Int):Rat)=L from hL.symm▸rfl] at s2
   unfold rv
   constructor<;>grind
  have ul1:=ul_one
  have hq:=uu_eq
  have hP:uu*rv V<=4503599627370496*ul/\-(4503599627370496*ul)<=uu*rv V:=by
   have s1:=Rat.mul_le_mul_of_nonneg_left hVr.1 (Rat.le_of_lt hq.2)
   have s2:=Rat.mul_le_mul_of_nonneg_left hVr.2 (Rat.le_of_lt hq.2)
   have e:uu*(L*ul)=4503599627370496*ul:=by
    have:uu*(L*ul)=uu*9007199254740992*(4503599627370496*ul):=by rw[hL];grind
    rw[this,hq.1,Rat.one_mul]
   have e':uu*-(L*ul)=-(4503599627370496*ul):=by rw[<-e];grind
   rw[e] at s1
   rw[e'] at s2
   exact⟨s1,s2⟩
  have hom:=om_big2
  obtain⟨fr,er⟩:=mul_ok f1 fv (by rw[ru];grind) (by rw[ru];grind)
  obtain⟨r,hr⟩:∃r,fM 4368491638549381120 V=r:=⟨_,rfl⟩
  rw[hr,ru] at er
  rw[hr] at fr
  refine⟨r,λw=>ldexp_C x s E m r k (-(dd:Int)) w hx.1 hs hE1 hE2 hm k1 k2 (by omega) (by omega) c0 c1 c2 C (by omega) (by omega) (by rw[<-hF,hV];exact fM_some f1 fv hr),?_⟩
  have hsame:=same_pow (u:=F-1) (x:=0) (a:=a) (b:=b) (c:=53) rfl ev (by omega)
  rw[<-vv] at hsame
  have e5:=congrArg (λz:Int=>(z:Rat)) hsame
  simp only[Rat.intCast_mul] at e5
  rw[p2_int,p2_int,p2_int] at e5
  have e53:p2 53=9007199254740992:=rfl
  rw[e53] at e5
  have e6:uu*rv V*p2 a=rv x*p2 b:=by
   unfold rv
   have:uu*((iv V:Rat)*ul)*p2 a=uu*ul*((iv V:Rat)*p2 a):=by grind
   rw[this,e5]
   have:uu*ul*((iv x:Rat)*p2 b*9007199254740992)=(uu*9007199254740992)*((iv x:Rat)*ul*p2 b):=by grind
   rw[this,hq.1,Rat.one_mul]
  generalize uu*rv V=P at*
  have hf:=fin_near hu hq hP.1 hP.2 er (Rat.le_of_lt (p2_pos a))
  refine⟨fr,?_,?_⟩
  ·rw[<-e6];exact hf.1
  ·rw[<-e6];exact hf.2
end Go.Proofs.YtfedabinindpbaaGreat
namespace Go.Proofs.YtfedabinindpbaaGreat
open Fl CG
theorem c39_val:Fnt 4431542033332568064/\rv 4431542033332568064=16384*uu:=by
 refine⟨by decide,?_⟩
 have h:=@iv_pos 984 0 (by omega) (by omega) (by omega)
 rw[show 984*4503599627370496+0=4431542033332568064 from rfl] at h
 have h2:iv 4431542033332568064*549755813888=2^U:=by
  rw[h,U_eq,show(1074:Nat)=52+(984-1)+39 from rfl,Int.pow_add,Int.pow_add]
  rfl
 have e1:=congrArg (λz:Int=>(z:Rat)) h2
 simp only[Rat.intCast_mul] at e1
 rw[p2_int,show((549755813888:Int):Rat)=549755813888 from rfl] at e1
 have e2:=ul_unit.1
 have e3:=uu_eq.1
 have e4:rv 4431542033332568064*549755813888=1:=by
  unfold rv
  have:(iv 4431542033332568064:Rat)*ul*549755813888=ul*p2 U:=by rw[<-e1];grind
  rw[this];exact e2
 grind
theorem iv_of_rv{x y:Nat}(h:rv x<=rv y):iv x<=iv y:=by
 apply Decidable.byContradiction
 intro hc
 have hu:=ul_unit.2
 have h1:iv y<iv x:=by omega
 have h2:=Rat.intCast_lt_intCast.2 h1
 have:=Rat.mul_pos (a:=(iv x:Rat)-(iv y:Rat)) (b:=ul) (by grind) hu
 unfold rv at h
 grind
theorem len_cmp{f g:Nat}(hf:Fnt f)(hg:Fnt g)(h1:1/4<=rv f)(h2:rv f<=100)(h3:rv f-rv g<=8100*uu*rv f)(h4:rv g-rv f<=8100*uu*rv f)(h5:0<=rv g):
  Fnt (fS f g)/\Fnt (fM 4431542033332568064 f)/\iv (fS f g)<=iv (fM 4431542033332568064 f)/\-iv (fS f g)<=iv (fM 4431542033332568064 f):=by
 obtain⟨fc,vc⟩:=c39_val
 have hu:=uu_small
 have ho:=om_big
 obtain⟨ll,l0,lu⟩:=ul_uu
 have uf:=Rat.mul_nonneg (Rat.le_of_lt hu.1) (show 0<=rv f by grind)
 have ue:=Rat.mul_le_mul_of_nonneg_right hu.2 (show 0<=rv f by grind)
 have uq:=Rat.mul_le_mul_of_nonneg_left h1 (Rat.le_of_lt hu.1)
 obtain⟨d1,d2⟩:=sub_ok hf hg (by grind) (by grind)
 obtain⟨e1,e2⟩:=mul_ok fc hf (by rw[vc];grind) (by rw[vc];grind)
 rw[vc] at e2
 have hP:0<=16384*uu*rv f:=by grind
 obtain⟨m1,m2⟩:=sq_err (u:=uu) (l:=ul) (P:=16384*uu*rv f) (Rat.le_of_lt hu.1) l0 hP e2
 have uuf:=Rat.mul_le_mul_of_nonneg_left ue (Rat.le_of_lt hu.1)
 have hx:(rv f-rv g)*(rv f-rv g)<=8100*uu*rv f*(8100*uu*rv f):=by
  have:=Rat.mul_nonneg (a:=8100*uu*rv f-(rv f-rv g)) (b:=8100*uu*rv f+(rv f-rv g)) (by grind) (by grind)
  grind
 have hx2:=Rat.mul_le_mul_of_nonneg_left hx (Rat.mul_nonneg (Rat.le_of_lt hu.1) (Rat.le_of_lt hu.1))
 have k:=le_sqL (a:=rv (fS f g)-(rv f-rv g)) (b:=uu*(8100*uu*rv f)) (Rat.mul_nonneg (Rat.le_of_lt hu.1) (by grind)) (by grind)
 have uuu:uu*(8100*uu*rv f)<=uu*rv f:=by
  have:=Rat.mul_le_mul_of_nonneg_right (show 8100*uu<=1 by grind) uf
  grind
 have hlo:16300*(uu*rv f)<=rv (fM 4431542033332568064 f):=by
  have:2*uu*(16384*uu*rv f)<=uu*rv f:=by
   have:=Rat.mul_le_mul_of_nonneg_right (show 32768*uu<=1 by grind) uf
   grind
  grind
 have hz:rv (fS f g)<=rv (fM 4431542033332568064 f):=by grind
 have hz2:-rv (fS f g)<=rv (fM 4431542033332568064 f):=by grind
 refine⟨d1,e1,iv_of_rv hz,?_⟩
 apply Decidable.byContradiction
 intro hc
 have hl:=ul_unit.2
 have q1:iv (fM 4431542033332568064 f)< -iv (fS f g):=by omega
 have q2:=Rat.intCast_lt_intCast.2 q1
 rw[Rat.intCast_neg] at q2
 have:=Rat.mul_pos (a:=-(iv (fS f g):Rat)-(iv (fM 4431542033332568064 f):Rat)) (b:=ul) (by grind) hl
 unfold rv at hz2
 grind
end Go.Proofs.YtfedabinindpbaaGreat
namespace Go.Proofs.YtfedabinindpbaaGreat
open Go.RowKit Go.Lib Fl CG
theorem Scale_val{x:Nat}(hx:Fnt x)(k:Int)(k1:-2900<=k)(k2:k<=2900){a b K0:Nat}(ha:a=(-k).toNat)(hb:b=k.toNat)(hK0:K0=1075)(hlt:(iv x).natAbs*2^b<2^(K0+a)):
  ∃r,(∀w,Calls Tryz.prog 31 #[.float .f64 x,.int .i64 k] w λz w'=>z=.returned (.float .f64 r)/\w=w')/\NearS x r a b:=by
 obtain⟨r,C,hr⟩:=ldexp_val hx k (by omega) (by omega) ha hb hK0 hlt
 refine⟨r,?_,hr⟩
 intro w
 have H:=aZ (λw=>Ldexp_of x r k w C)
 have e1:min k 3000=k:=by omega
 have e2:max (-3000) k=k:=by omega
 clear C hr hlt ha hb
 go_enter Tryz.func31,Tryz.ntmps31
 go_wp2_with (first|simp only[e1,e2]|fail)
 refine(H.out _).mono ?_
 rintro z w' ⟨rfl,rfl⟩
 go_wp2
 go_ret
 exact⟨rfl,rfl⟩
def mantE(r:Nat):Nat:=if r/4503599627370496=0 then r else r%4503599627370496+4503599627370496
def expoE(r:Nat):Int:=if r/4503599627370496=0 then-1074 else((r/4503599627370496:Nat):Int)-1075
theorem mant_iv{r:Nat}(hr:r<9218868437227405312):∃l:Nat,expoE r+1074=(l:Int)/\iv r=(mantE r:Int)*2^l/\mantE r<9007199254740992/\l<=2045:=by
 refine⟨r/4503599627370496-1,?_,?_,?_,by omega⟩
 ·unfold expoE;split<;>omega
 ·rw[iv_low hr rfl rfl]
  congr 2
  unfold mantE
  split<;>omega
 ·unfold mantE;split<;>omega
theorem Parts_val0(r:Nat)(hr:r<9218868437227405312)(w:World):Calls Tryz.prog 38 #[.float .f64 (r:Nat)] w λz w'=>(∃M E:Int,M=(mantE r:Int)/\E=expoE r/\z=.returned (.tuple #[.int .i64 M,.int .i64 E]))/\w=w':=by
 have hbits:=run_bitsF
 obtain⟨x,hx⟩:∃x,(r)=x:=⟨_,rfl⟩
 obtain⟨e0,he0⟩:∃e:Int,IntKind.u64.wrap ((x:Int)*2)/9007199254740992=e:=⟨_,rfl⟩
 obtain⟨m0,hm0⟩:∃q:Int,IntKind.u64.wrap ((x:Int)*4096)/4096=q:=⟨_,rfl⟩
 have h1:e0=((r/4503599627370496:Nat):Int):=by rw[IntKind.wrap_u64] at he0;omega
 have h2:m0=((r%4503599627370496:Nat):Int):=by rw[IntKind.wrap_u64] at hm0;omega
 obtain⟨e,he⟩:∃e,wrap64 e0=e:=⟨_,rfl⟩
 have he1:e=e0:=by rw[<-he];unfold wrap64;omega
 obtain⟨m,hm⟩:∃m,wrap64 m0=m:=⟨_,rfl⟩
 have hm1:m=m0:=by rw[<-hm];unfold wrap64;omega
 have ht:(x:Int)/9223372036854775808=0:=by omega
 have hb1:0<=e/\e<=2046:=by omega
 have hb2:0<=m/\m<4503599627370496:=by omega
 have H1:=aZ (And.intro he1 (And.intro hm1 (And.intro h1 (And.intro h2 (And.intro hr hx)))))
 rw[hx]
 clear he1 hm1 h1 h2 hx
 go_enter Tryz.func38,Tryz.ntmps38
 go_wp2
 all_goals go_ret2
 all_goals
  refine⟨⟨_,_,?_,?_,rfl⟩,rfl⟩
  all_goals have H:=H1.out
  all_goals first|unfold mantE|unfold expoE
  all_goals split<;>omega
theorem Parts_val1(r:Nat)(hr:r<9218868437227405312)(w:World):Calls Tryz.prog 38 #[.float .f64 (9223372036854775808+r:Nat)] w λz w'=>(∃M E:Int,M=(-(mantE r:Int))/\E=expoE r/\z=.returned (.tuple #[.int .i64 M,.int .i64 E]))/\w=w':=by
 have hbits:=run_bitsF
 obtain⟨x,hx⟩:∃x,(9223372036854775808+r)=x:=⟨_,rfl⟩
 obtain⟨e0,he0⟩:∃e:Int,IntKind.u64.wrap ((x:Int)*2)/9007199254740992=e:=⟨_,rfl⟩
 obtain⟨m0,hm0⟩:∃q:Int,IntKind.u64.wrap ((x:Int)*4096)/4096=q:=⟨_,rfl⟩
 have h1:e0=((r/4503599627370496:Nat):Int):=by rw[IntKind.wrap_u64] at he0;omega
 have h2:m0=((r%4503599627370496:Nat):Int):=by rw[IntKind.wrap_u64] at hm0;omega
 obtain⟨e,he⟩:∃e,wrap64 e0=e:=⟨_,rfl⟩
 have he1:e=e0:=by rw[<-he];unfold wrap64;omega
 obtain⟨m,hm⟩:∃m,wrap64 m0=m:=⟨_,rfl⟩
 have hm1:m=m0:=by rw[<-hm];unfold wrap64;omega
 have ht:(x:Int)/9223372036854775808=1:=by omega
 have hb1:0<=e/\e<=2046:=by omega
 have hb2:0<=m/\m<4503599627370496:=by omega
 have H1:=aZ (And.intro he1 (And.intro hm1 (And.intro h1 (And.intro h2 (And.intro hr hx)))))
 rw[hx]
 clear he1 hm1 h1 h2 hx
 go_enter Tryz.func38,Tryz.ntmps38
 go_wp2
 all_goals go_ret2
 all_goals
  refine⟨⟨_,_,?_,?_,rfl⟩,rfl⟩
  all_goals have H:=H1.out
  all_goals first|unfold mantE|unfold expoE
  all_goals split<;>omega
def RSx(s m:Nat)(e:Int):Nat:=(bits .or .u64 (bits .or .u64 ((s*9223372036854775808:Nat):Int) ((e+1075)*4503599627370496)) (((m-4503599627370496:Nat):Int))).toNat
def RSq(s q:Nat):Nat:=(bits .or .u64 ((s*9223372036854775808:Nat):Int) (q:Int)).toNat
theorem RSq_of{s q:Nat}{sg q0:Int}(h1:sg=((s*9223372036854775808:Nat):Int))(h2:q0=(q:Int)):(bits .or .u64 sg q0).toNat=RSq s q:=by
 rw[h1,h2];rfl
theorem rs_facts{m T0 H0 q0 p0:Int}{n0 d:Nat}(hm:m=(n0:Int))(hn:n0<9007199254740992)(hd1:1<=d)(hd2:d<=60)(hT0:(2:Int)^d=T0)(hH0:(2:Int)^(d-1)=H0)(hq0:m/T0=q0)(hp0:q0*T0=p0):
  (0<=p0/\p0<=m)/\(0<=q0/\q0<=m)/\(0<=H0/\H0<=1152921504606846976)/\
  Hid (∃qn pn Tn:Nat,2^d=Tn/\qn*2^d=pn/\(qn+1)*2^d=pn+Tn/\q0=(qn:Int)/\p0=(pn:Int)/\T0=(Tn:Int)/\T0=2*H0/\m<p0+T0/\p0<=m):=by
 have hTn:T0=((2^d:Nat):Int):=by rw[<-hT0,Int.natCast_pow];rfl
 have hHn:H0=((2^(d-1):Nat):Int):=by rw[<-hH0,Int.natCast_pow];rfl
 have h2:2^d=2*2^(d-1):=by rw[Nat.mul_comm,<-Nat.pow_succ];congr 1;omega
 have hle:2^(d-1)<=2^60:=Nat.pow_le_pow_right (by decide) (by omega)
 have hpos:0<2^d:=Nat.two_pow_pos d
 have hq:q0=((n0/2^d:Nat):Int):=by rw[<-hq0,hm,hTn,Int.natCast_ediv]
 have hp:p0=((n0/2^d*2^d:Nat):Int):=by rw[<-hp0,hq,hTn,Int.natCast_mul]
 have a1:n0/2^d*2^d<=n0:=Nat.div_mul_le_self _ _
 have a2:n0<n0/2^d*2^d+2^d:=by
  have:=Nat.div_add_mod n0 (2^d)
  have h3:=Nat.mod_lt n0 hpos
  rw[Nat.mul_comm] at this
  omega
 have a3:n0/2^d<=n0:=Nat.div_le_self _ _
 have a4:(n0/2^d+1)*2^d=n0/2^d*2^d+2^d:=by rw[Nat.add_mul,Nat.one_mul]
 have b1:(0:Int)<=p0:=by rw[hp];exact Int.natCast_nonneg _
 have b2:p0<=m:=by rw[hp,hm];exact Int.ofNat_le.2 a1
 have b3:(0:Int)<=q0:=by rw[hq];exact Int.natCast_nonneg _
 have b4:q0<=m:=by rw[hq,hm];exact Int.ofNat_le.2 a3
 have b5:(0:Int)<=H0:=by rw[hHn];exact Int.natCast_nonneg _
 have b6:H0<=1152921504606846976:=by rw[hHn];exact Int.ofNat_le.2 hle
 have b7:T0=2*H0:=by rw[hTn,hHn,h2,Int.natCast_mul];rfl
 have b8:m<p0+T0:=by rw[hp,hTn,hm,<-Int.natCast_add];exact Int.ofNat_lt.2 a2
 refine⟨⟨b1,b2⟩,⟨b3,b4⟩,⟨b5,b6⟩,aZ ⟨n0/2^d,n0/2^d*2^d,2^d,rfl,rfl,a4,hq,hp,hTn,b7,b8,b2⟩⟩
def RSP(s mt:Nat)(E k:Int)(z:Ending):Prop:=∃(j m:Nat) (e:Int) (y:Nat),m=mt*2^j/\e=E-j+k/\m<9007199254740992/\4503599627370496<=m/\
   (-1074<=e/\y=RSx s m e\/e< -1074/\∃(d q:Nat),d=min 60 (-1074-e).toNat/\y=RSq s q/\(2*(q*2^d)<=2*m+2^d/\2*m<=2*(q*2^d)+2^d))/\z=.returned (.float .f64 y)
theorem RScale_walk(x s mt:Nat)(M E k:Int)(w:World)(hx:x<18446744073709551616)(hs:s<2)(hsx:(x:Int)/9223372036854775808=s)(hf:finB x=true)(c0:(FloatKind.f64.format.order x 0==some Ordering.eq)=false)(hM:M=mt\/M=-(mt:Int))(h1:1<=mt)(h2:mt<9007199254740992)(hE1:-1074<=E)(hE2:E<=971)(k1:-2900<=k)(k2:k<=2900)(hC:∀w,Calls Tryz.prog 38 #[.float .f64 x] w λz w'=>z=.returned (.tuple #[.int .i64 M,.int .i64 E])/\w=w')(hov:∀j:Nat,mt*2^j<9007199254740992->4503599627370496<=mt*2^j->E-j+k<=971):
  Calls Tryz.prog 13 #[.float .f64 x,.int .i64 k] w λz w'=>RSP s mt E k z/\w=w':=by
 have hbits:=run_bitsF
 have hfrom:=run_fromF
 have C1:=aZ (λw=>RFin_any x hx w)
 have C2:=aZ hC
 have HO:=aZ hov
 obtain⟨sg,hsg⟩:∃sg:Int,IntKind.u64.wrap ((x:Int)/9223372036854775808*9223372036854775808)=sg:=⟨_,rfl⟩
 have hsg2:sg=((s*9223372036854775808:Nat):Int):=by rw[<-hsg,IntKind.wrap_u64,hsx];omega
 have HS:=aZ hsg2
 have HM:=aZ (And.intro hM (And.intro h1 (And.intro h2 (And.intro hE1 hE2))))
 have hMb:-9007199254740992<M/\M<9007199254740992:=by omega
 have hk1:¬k>5000:=by omega
 have hk2:¬k< -5000:=by omega
 rw[hf] at C1
 clear hC hov hsg2 hsx hM hf hs
 go_enter Tryz.func13,Tryz.ntmps13
 go_wp2_with fail
 refine(C1.out _).mono ?_
 rintro z w' ⟨rfl,rfl⟩
 go_wp2_with fail
 refine(C2.out _).mono ?_
 rintro z w' ⟨rfl,rfl⟩
 go_wp2
 all_goals
  go_loopw [8,9] (λmv ev wr=>∃(m e:Int) (j:Nat),mv=.int .i64 m/\ev=.int .i64 e/\Hid (m=((mt*2^j:Nat):Int)/\1<=m/\m<9007199254740992/\e=E-j/\(j:Int)<m+1)/\w=wr) (λmv _ _=>(9007199254740992-intOf mv).toNat)
 case atStart=>exact⟨_,_,0,rfl,rfl,aZ (by have:=HM.out;omega),rfl⟩
 case atStart=>exact⟨_,_,0,rfl,rfl,aZ (by have:=HM.out;omega),rfl⟩
 all_goals
  obtain⟨m,e,j,rfl,rfl,HI,rfl⟩:=hrel
  by_cases hlt:m<4503599627370496
  ·have hm1:=HI.out.2.1
   have hm2:-9223372036854770000<=e-1/\e-1<=971:=by have:=HI.out;omega
   have HN:Hid (m*2=((mt*2^(j+1):Nat):Int)/\1<=m*2/\m*2<9007199254740992/\e-1=E-((j+1:Nat):Int)/\((j+1:Nat):Int)<m*2+1):=aZ (by
    obtain⟨a1,a2,a3,a4,a5⟩:=HI.out
    refine⟨?_,by omega,by omega,by omega,by omega⟩
    rw[a1,Nat.pow_succ,<-Nat.mul_assoc,Int.natCast_mul (mt*2^j) 2]
    rfl)
   go_wp2
   exact⟨⟨_,_,j+1,rfl,rfl,HN,trivial⟩,by simp only[intOf];omega⟩
  ·obtain⟨a1,a2,a3,a4,a5⟩:=HI.out
   obtain⟨n,hn⟩:∃n:Nat,n=mt*2^j:=⟨_,rfl⟩
   have hj:j<53:=by
    apply Decidable.byContradiction
    intro hc
    have g1:2^53<=2^j:=Nat.pow_le_pow_right (by decide) (by omega)
    have g2:1*2^j<=mt*2^j:=Nat.mul_le_mul_right _ HM.out.2.1
    omega
   have hEE:=HM.out
   have hnm:m=(n:Int):=by rw[hn];exact a1
   have hov:=HO.out j (by omega) (by omega)
   obtain⟨g,hg⟩:∃g:Int,g=e+k:=⟨_,rfl⟩
   have hgb:-4100<=g/\g<=971:=by omega
   have hgE:g=E-j+k:=by omega
   have hgw:wrap64 (e+k)=g:=by rw[hg];unfold wrap64;omega
   have HG:=aZ (And.intro hn (And.intro hgE (And.intro hnm (show 4503599627370496<=n/\n<9007199254740992 by omega))))
   have hmb:4503599627370496<=m/\m<9007199254740992:=by omega
   clear a1 a2 a4 a5 HI hj hEE hnm hov hn hgE hlt
   by_cases hsub:-1074<=g
   ·have hg1:¬g>971:=by omega
    clear hg k1 k2 hk1 hk2 a3
    have hmw:IntKind.u64.wrap (m*4096)/4096=((n-4503599627370496:Nat):Int):=by
     have:=HG.out
     rw[IntKind.wrap_u64];omega
    go_wp2_with fail
    go_ret
    obtain⟨q1,q2,q3,q4,q5⟩:=HG.out
    refine⟨⟨j,n,g,_,q1,q2,q5,q4,.inl ⟨hsub,?_⟩,rfl⟩,rfl⟩
    unfold RSx
    rw[HS.out]
   ·clear hg k1 k2 hk1 hk2 a3
    obtain⟨dd,hdd⟩:∃dd:Int,wrap64 (-1074-g)=dd:=⟨_,rfl⟩
    have hdd2:dd=-1074-g:=by rw[<-hdd];unfold wrap64;omega
    have HD:=aZ hdd2
    have hg1:¬g>971:=by omega
    have hg2:¬g≥-1074:=by omega
    by_cases hd:dd>60
    ·clear hdd2 hgb hsub
     go_wp2_with fail
     go_ret
     obtain⟨q1,q2,q3,q4,q5⟩:=HG.out
     have hD:=HD.out
     refine⟨⟨j,n,g,_,q1,q2,q5,q4,.inr ⟨by omega,60,0,by omega,?_,by omega,by omega⟩,rfl⟩,rfl⟩
     unfold RSq
     rw[HS.out,show m/1152921504606846976=((0:Nat):Int) by omega]
    ·have hd1:1<=dd:=by omega
     have hd3:dd<=60:=by omega
     obtain⟨d,hd4⟩:∃d:Nat,dd=d:=⟨dd.toNat,by omega⟩
     subst hd4
     clear hdd2 hgb hsub
     have hD:=HD.out
     obtain⟨T0,hT0⟩:∃T0:Int,(2:Int)^d=T0:=⟨_,rfl⟩
     obtain⟨H0,hH0⟩:∃H0:Int,(2:Int)^(d-1)=H0:=⟨_,rfl⟩
     obtain⟨q0,hq0⟩:∃q0:Int,m/T0=q0:=⟨_,rfl⟩
     obtain⟨p0,hp0⟩:∃p0:Int,q0*T0=p0:=⟨_,rfl⟩
     obtain⟨n0,hn0⟩:∃n0:Nat,m=(n0:Int):=⟨m.toNat,by omega⟩
     obtain⟨hpm,hqm,hHm,HF⟩:=rs_facts hn0 (show n0<9007199254740992 by omega) (show 1<=d by omega) (show d<=60 by omega) hT0 hH0 hq0 hp0
     have e1:((d:Int)).toNat=d:=Int.toNat_natCast d
     have e2:((d:Int)-1).toNat=d-1:=by omega
     clear hn0 hD
     go_wp2_with fail
     all_goals go_ret
     all_goals
      obtain⟨q1,q2,q3,q4,q5⟩:=HG.out
      obtain⟨qn,pn,Tn,f1,f2,f3,f4,f5,f6,f7,f8,f9⟩:=HF.out
      have hD:=HD.out
      first
       |(refine⟨⟨j,n,g,_,q1,q2,q5,q4,.inr ⟨by omega,d,qn,by omega,RSq_of HS.out (by omega),?_,?_⟩,rfl⟩,rfl⟩<;>rw[f2,f1]<;>omega)
       |(refine⟨⟨j,n,g,_,q1,q2,q5,q4,.inr ⟨by omega,d,qn+1,by omega,RSq_of HS.out (by omega),?_,?_⟩,rfl⟩,rfl⟩<;>rw[f3,f1]<;>omega)
theorem orLow(A t:Nat)(hA:A<4096)(ht:t<4503599627370496):bits .or .u64 ((A*4503599627370496:Nat):Int) (t:Int)=((A*4503599627370496+t:Nat):Int):=by
 rw[u64_or_nat (A*4503599627370496) t (by omega) (by omega)]
 congr 1
 rw[show A*4503599627370496=A <<< 52 from by rw[Nat.shiftLeft_eq]]
 exact(Nat.shiftLeft_add_eq_or_of_lt (i:=52) (show t<2^52 by omega) A).symm
theorem RSx_word{s m:Nat}{e:Int}{F:Nat}(hs:s<2)(h1:4503599627370496<=m)(h2:m<9007199254740992)(hF:(F:Int)=e+1075)(hF2:F<2048):
  RSx s m e=s*9223372036854775808+(F*4503599627370496+(m-4503599627370496)):=by
 unfold RSx
 rw[<-hF,show(F:Int)*4503599627370496=((F*4503599627370496:Nat):Int) by rw[Int.natCast_mul];rfl]
 have a1:=orS s 0 F hs (by decide) hF2
 rw[Nat.add_zero,Nat.add_zero] at a1
 rw[a1,show s*9223372036854775808+F*4503599627370496=(s*2048+F)*4503599627370496 by omega]
 rw[orLow (s*2048+F) (m-4503599627370496) (by omega) (by omega),Int.toNat_natCast]
 omega
theorem RSq_word{s q:Nat}(hs:s<2)(hq:q<=4503599627370496):RSq s q=s*9223372036854775808+q:=by
 unfold RSq
 by_cases h:q=4503599627370496
 ·subst h
  have a1:=orS s 0 1 hs (by decide) (by decide)
  rw[Nat.add_zero,Nat.add_zero,Nat.one_mul] at a1
  rw[a1,Int.toNat_natCast]
 ·rw[show s*9223372036854775808=(s*2048)*4503599627370496 by omega,orLow (s*2048) q (by omega) (by omega),Int.toNat_natCast]
theorem iv_sq{s q:Nat}(hs:s<2)(hq:q<=4503599627370496):Fnt (s*9223372036854775808+q)/\iv (s*9223372036854775808+q)=(if s=0 then 1 else-1)*(q:Int):=by
 have h0:iv q=(q:Int):=by rw[iv_low (r:=q) (by omega) (l:=0) (q:=q) (by omega) (by omega)];simp
 rcases(show s=0\/s=1 by omega) with rfl|rfl
 ·rw[Nat.zero_mul,Nat.zero_add,if_pos rfl,Int.one_mul]
  exact⟨⟨by omega,by omega⟩,h0⟩
 ·rw[Nat.one_mul,if_neg (by decide),iv_sgn (by omega),h0,Int.neg_mul,Int.one_mul]
  exact⟨⟨by omega,by omega⟩,rfl⟩
def HalfS(x y a b:Nat):Prop:=Fnt y/\2*(iv y*2^a-iv x*2^b)<=2^a/\2*(iv x*2^b-iv y*2^a)<=2^a
theorem half_same{x y a b:Nat}(hy:Fnt y)(h:iv y*2^a=iv x*2^b):HalfS x y a b:=by
 have hp:=pow_pos_int a
 refine⟨hy,?_,?_⟩<;>rw[h]<;>omega
theorem half_sgn{x y a b:Nat}{σ:Int}{X Y:Nat}(hy:Fnt y)(hσ:σ=1\/σ=-1)(h1:iv y=σ*(Y:Int))(h2:iv x=σ*(X:Int))(h3:2*(Y*2^a)<=2*(X*2^b)+2^a)(h4:2*(X*2^b)<=2*(Y*2^a)+2^a):HalfS x y a b:=by
 have e1:iv y*2^a=σ*((Y*2^a:Nat):Int):=by rw[h1,Int.mul_assoc,Int.natCast_mul,Int.natCast_pow];rfl
 have e2:iv x*2^b=σ*((X*2^b:Nat):Int):=by rw[h2,Int.mul_assoc,Int.natCast_mul,Int.natCast_pow];rfl
 have e3:(2:Int)^a=((2^a:Nat):Int):=by rw[Int.natCast_pow];rfl
 refine⟨hy,?_,?_⟩<;>rw[e1,e2,e3]<;>rcases hσ with rfl|rfl<;>omega
theorem small_m{m:Nat}(h:m<9007199254740992):2*m<=2^60:=by omega
theorem RScale_null(x:Nat)(k:Int)(w:World)(hx:x<18446744073709551616)(c0:(FloatKind.f64.format.order x 0==some Ordering.eq)=true)(hf:finB x=true):Calls Tryz.prog 13 #[.float .f64 x,.int .i64 k] w λz w'=>z=.returned (.float .f64 x)/\w=w':=by
 have C1:=aZ (λw=>RFin_any x hx w)
 rw[hf] at C1
 go_enter Tryz.func13,Tryz.ntmps13
 go_wp2_with fail
 refine(C1.out _).mono ?_
 rintro z w' ⟨rfl,rfl⟩
 go_wp2
 go_ret
 exact⟨rfl,rfl⟩
theorem RScale_val{x:Nat}(hx:Fnt x)(k:Int)(k1:-2900<=k)(k2:k<=2900){a b K0:Nat}(ha:a=(-k).toNat)(hb:b=k.toNat)(hK0:K0<=2098)(hlt:(iv x).natAbs*2^b<2^(K0+a))(w:World):
  Calls Tryz.prog 13 #[.float .f64 x,.int .i64 k] w λz w'=>(∃y,HalfS x y a b/\z=.returned (.float .f64 y))/\w=w':=by
 have hab:(k:Int)=(b:Int)-(a:Int):=by omega
 have fz:Fnt 0:=by decide
 have hfin:finB x=true:=by
  unfold finB
  have:=hx.2
  rw[Bool.not_eq_true',decide_eq_false_iff_not]
  omega
 have o0:FloatKind.f64.format.order x 0=some (compare (iv x) 0):=by
  have:FloatKind.f64.format.order x 0=some (compare (iv x) (iv 0)):=order_spec hx fz
  rw[this,iv_zero]
 by_cases h0:iv x=0
 ·refine(RScale_null x k w hx.1 (by rw[o0,h0];rfl) hfin).mono ?_
  rintro z w' ⟨rfl,rfl⟩
  exact⟨⟨x,half_same hx (by rw[h0,Int.zero_mul,Int.zero_mul]),rfl⟩,rfl⟩
 have c0:(FloatKind.f64.format.order x 0==some Ordering.eq)=false:=by
  rw[o0]
  rcases Int.lt_trichotomy (iv x) 0 with h|h|h
  ·rw[Int.compare_eq_lt.2 h];rfl
  ·exact absurd h h0
  ·rw[Int.compare_eq_gt.2 h];rfl
 obtain⟨s,r,hs,hr,ex,ev,em⟩:=word_split hx
 obtain⟨l,hl,hv,hm1,hl2⟩:=mant_iv hr
 have hmp:1<=mantE r:=by
  rcases Nat.eq_zero_or_pos (mantE r) with h|h
  ·rw[hv,h] at ev
   exfalso;apply h0;rw[ev];simp
  ·exact h
 have hσ:((if s=0 then 1 else-1:Int))=1\/((if s=0 then 1 else-1:Int))=-1:=by split<;>simp
 obtain⟨σ,hσe⟩:∃σ:Int,(if s=0 then 1 else-1)=σ:=⟨_,rfl⟩
 have hX:iv x=σ*((mantE r*2^l:Nat):Int):=by rw[ev,hv,hσe,Int.natCast_mul,Int.natCast_pow];rfl
 have hXa:(iv x).natAbs=mantE r*2^l:=by
  rw[hX,Int.natAbs_mul,Int.natAbs_natCast]
  rw[hσe] at hσ
  rcases hσ with h|h<;>rw[h]<;>exact Nat.one_mul _
 rw[hXa] at hlt
 rw[hσe] at hσ
 obtain⟨mt,hmt⟩:∃mt,mantE r=mt:=⟨_,rfl⟩
 obtain⟨E,hE⟩:∃E,expoE r=E:=⟨_,rfl⟩
 rw[hmt] at hX hm1 hmp hlt
 rw[hE] at hl
 have hov:∀j:Nat,mt*2^j<9007199254740992->4503599627370496<=mt*2^j->E-j+k<=971:=by
  intro j _ g1
  apply Decidable.byContradiction
  intro hc
  have g2:=Nat.mul_le_mul_right (2^(l+b-j)) g1
  have e1:mt*2^j*2^(l+b-j)=mt*2^l*2^b:=by
   rw[Nat.mul_assoc,Nat.mul_assoc,<-Nat.pow_add,<-Nat.pow_add];congr 2;omega
  have e2:4503599627370496*2^(l+b-j)=2^(52+(l+b-j)):=by rw[Nat.pow_add]
  have g3:2^(K0+a)<=2^(52+(l+b-j)):=Nat.pow_le_pow_right (by decide) (by omega)
  rw[e1,e2] at g2
  omega
 have hC:∃M:Int,(M=mt\/M=-(mt:Int))/\∀w,Calls Tryz.prog 38 #[.float .f64 x] w λz w'=>z=.returned (.tuple #[.int .i64 M,.int .i64 E])/\w=w':=by
  rcases(show s=0\/s=1 by omega) with h|h
  ·refine⟨mt,.inl rfl,λw=>?_⟩
   rw[show x=r by omega]
   refine(Parts_val0 r hr w).mono ?_
   rintro z w' ⟨⟨M,E',rfl,rfl,rfl⟩,rfl⟩
   rw[hmt,hE]
   exact⟨rfl,rfl⟩
  ·refine⟨-(mt:Int),.inr rfl,λw=>?_⟩
   rw[show x=9223372036854775808+r by omega]
   refine(Parts_val1 r hr w).mono ?_
   rintro z w' ⟨⟨M,E',rfl,rfl,rfl⟩,rfl⟩
   rw[hmt,hE]
   exact⟨rfl,rfl⟩
 obtain⟨M,hM,hC⟩:=hC
 refine(RScale_walk x s mt M E k w hx.1 hs (by omega) hfin c0 hM hmp hm1 (by omega) (by omega) k1 k2 hC hov).mono ?_
 rintro z w' ⟨⟨j,m,e,y,q1,q2,q3,q4,q5,rfl⟩,rfl⟩
 refine⟨⟨y,?_,rfl⟩,rfl⟩
 have he9:=hov j (by omega) (by omega)
 rcases q5 with⟨p1,p2⟩|⟨p1,d,q,p2,p3,p4,p5⟩
 ·obtain⟨F,hF⟩:∃F:Nat,(F:Int)=e+1075:=⟨(e+1075).toNat,by omega⟩
  rw[RSx_word hs q4 q3 hF (by omega)] at p2
  obtain⟨fv,vv⟩:=@iv_sw s F (m-4503599627370496) hs (by omega) (by omega) (by omega)
  rw[<-p2] at fv vv
  rw[hσe,show 4503599627370496+(m-4503599627370496)=m by omega] at vv
  refine half_same fv ?_
  rw[vv,hX]
  have e1:σ*((m:Int)*2^(F-1))*2^a=σ*((m*(2^(F-1)*2^a):Nat):Int):=by
   rw[Int.natCast_mul,Int.natCast_mul,Int.natCast_pow,Int.natCast_pow];grind
  have e2:σ*((mt*2^l:Nat):Int)*2^b=σ*((mt*(2^l*2^b):Nat):Int):=by
   rw[Int.natCast_mul,Int.natCast_mul,Int.natCast_mul,Int.natCast_pow,Int.natCast_pow];grind
  rw[e1,e2,q1,Nat.mul_assoc,<-Nat.pow_add,<-Nat.pow_add,<-Nat.pow_add]
  congr 4
  omega
 ·obtain⟨D,hD⟩:∃D:Nat,(D:Int)=-1074-e:=⟨(-1074-e).toNat,by omega⟩
  have hD1:1<=D:=by omega
  have hd:d=min 60 D:=by omega
  have hq52:q<=4503599627370496:=by
   have h2:2^d=2*2^(d-1):=by rw[Nat.mul_comm,<-Nat.pow_succ];congr 1;omega
   have hT:1<=2^(d-1):=Nat.two_pow_pos _
   rw[h2] at p4
   apply Decidable.byContradiction
   intro hc
   have:=Nat.mul_le_mul_right (2*2^(d-1)) (show 4503599627370497<=q by omega)
   omega
  rw[RSq_word hs hq52] at p3
  obtain⟨fv,vv⟩:=iv_sq hs hq52
  rw[<-p3,hσe] at vv
  rw[<-p3] at fv
  have key:mt*2^l*2^b*2^D=m*2^a:=by
   rw[q1,Nat.mul_assoc,Nat.mul_assoc,Nat.mul_assoc,<-Nat.pow_add,<-Nat.pow_add,<-Nat.pow_add]
   congr 2
   omega
  have hA:0<2^a:=Nat.two_pow_pos _
  have hDp:0<2^D:=Nat.two_pow_pos _
  by_cases hc:D<=60
  ·rw[show d=D by omega] at p4 p5
   refine half_sgn fv hσ vv hX ?_ ?_
   ·refine Nat.le_of_mul_le_mul_right ?_ hDp
    have:=Nat.mul_le_mul_right (2^a) p4
    rw[Nat.add_mul,Nat.mul_assoc 2 (mt*2^l*2^b),key]
    generalize 2^a=A at*
    generalize 2^D=B at*
    grind
   ·refine Nat.le_of_mul_le_mul_right ?_ hDp
    have:=Nat.mul_le_mul_right (2^a) p5
    rw[Nat.add_mul,Nat.mul_assoc 2 (mt*2^l*2^b),key]
    generalize 2^a=A at*
    generalize 2^D=B at*
    grind
  ·rw[show d=60 by omega] at p4
   have hq0:q=0:=by omega
   subst hq0
   refine half_sgn fv hσ vv hX (by rw[Nat.zero_mul];omega) ?_
   rw[Nat.zero_mul,Nat.mul_zero,Nat.zero_add]
   refine Nat.le_of_mul_le_mul_right ?_ hDp
   rw[Nat.mul_assoc 2 (mt*2^l*2^b),key,Nat.mul_comm (2^a),<-Nat.mul_assoc]
   refine Nat.mul_le_mul_right _ ?_
   have h7:2*m<=2^60:=small_m q3
   exact Nat.le_trans h7 (Nat.pow_le_pow_right (by decide) (by omega))
end Go.Proofs.YtfedabinindpbaaGreat
namespace Go.Proofs.YtfedabinindpbaaGreat
open Fl CG
def vS(x a b:Nat):Rat:=rv x*p2 b*(p2 a)⁻¹
theorem vS_eq(x a b:Nat):vS x a b*p2 a=rv x*p2 b:=by
 unfold vS
 rw[Rat.mul_assoc,Rat.inv_mul_cancel _ (by have:=p2_pos a;grind),Rat.mul_one]
theorem le_cancel{x y A:Rat}(hA:0<A)(h:x*A<=y*A):x<=y:=by
 apply Classical.byContradiction
 intro hc
 have:=Rat.mul_pos (a:=x-y) (b:=A) (by grind) hA
 grind
theorem NearS.near{x r a b:Nat}(h:NearS x r a b):Fnt r/\rv r-vS x a b<=2*ul/\vS x a b-rv r<=2*ul:=by
 obtain⟨h1,h2,h3⟩:=h
 have e:=vS_eq x a b
 have hp:=p2_pos a
 refine⟨h1,le_cancel hp ?_,le_cancel hp ?_⟩<;>grind
theorem HalfS.near{x y a b:Nat}(h:HalfS x y a b):Fnt y/\rv y-vS x a b<=2*ul/\vS x a b-rv y<=2*ul:=by
 obtain⟨h1,h2,h3⟩:=h
 have hu:=ul_unit.2
 have s1:=Rat.intCast_le_intCast.2 h2
 have s2:=Rat.intCast_le_intCast.2 h3
 simp only[Rat.intCast_mul,Rat.intCast_sub,p2_int] at s1 s2
 rw[show((2:Int):Rat)=2 from rfl] at s1 s2
 have t1:=Rat.mul_le_mul_of_nonneg_right s1 (Rat.le_of_lt hu)
 have t2:=Rat.mul_le_mul_of_nonneg_right s2 (Rat.le_of_lt hu)
 have hp:=p2_pos a
 have hpu:=Rat.mul_pos hp hu
 refine NearS.near ⟨h1,?_,?_⟩<;>unfold rv<;>grind
theorem HalfS.same{x y:Nat}(h:HalfS x y 0 0):iv y=iv x:=by
 obtain⟨h1,h2,h3⟩:=h
 simp only[Int.pow_zero,Int.mul_one] at h2 h3
 omega
theorem vS_one{x a b:Nat}(h:(iv x).natAbs*2^b<=2^(U+a)):vS x a b<=1/\-vS x a b<=1:=by
 have e:=vS_eq x a b
 have hp:=p2_pos a
 obtain⟨ux,hu⟩:=ul_unit
 have h1:((iv x).natAbs:Int)*2^b<=2^U*2^a:=by
  have:=Int.ofNat_le.2 h
  rw[Nat.pow_add,Int.natCast_mul,Int.natCast_mul,Int.natCast_pow,Int.natCast_pow,Int.natCast_pow] at this
  exact this
 have hm1:iv x*2^b<=((iv x).natAbs:Int)*2^b:=Int.mul_le_mul_of_nonneg_right (by omega) (Int.le_of_lt (pow_pos_int _))
 have hm2:-iv x*2^b<=((iv x).natAbs:Int)*2^b:=Int.mul_le_mul_of_nonneg_right (by omega) (Int.le_of_lt (pow_pos_int _))
 have s1:=Rat.intCast_le_intCast.2 (Int.le_trans hm1 h1)
 have s2:=Rat.intCast_le_intCast.2 (Int.le_trans hm2 h1)
 simp only[Rat.intCast_mul,Rat.intCast_neg,p2_int] at s1 s2
 have t1:=Rat.mul_le_mul_of_nonneg_right s1 (Rat.le_of_lt hu)
 have t2:=Rat.mul_le_mul_of_nonneg_right s2 (Rat.le_of_lt hu)
 have ux':ul*p2 U=1:=ux
 have e2:p2 U*p2 a*ul=p2 a:=by
  have:p2 U*p2 a*ul=ul*p2 U*p2 a:=by grind
  rw[this,ux',Rat.one_mul]
 rw[e2] at t1 t2
 refine⟨le_cancel hp ?_,le_cancel hp ?_⟩
 ·rw[e];unfold rv;grind
 ·rw[Rat.neg_mul,e];unfold rv;grind
theorem vS_half{x a b:Nat}(h:2^(U+a)<=2*((iv x).natAbs*2^b)):1/4<=vS x a b*vS x a b:=by
 have e:=vS_eq x a b
 have hp:=p2_pos a
 obtain⟨ux,hu⟩:=ul_unit
 have ux':ul*p2 U=1:=ux
 have e2:p2 U*p2 a*ul=p2 a:=by
  have:p2 U*p2 a*ul=ul*p2 U*p2 a:=by grind
  rw[this,ux',Rat.one_mul]
 have h1:(2:Int)^U*2^a<=2*(((iv x).natAbs:Int)*2^b):=by
  have:=Int.ofNat_le.2 h
  rw[Nat.pow_add,Int.natCast_mul,Int.natCast_mul,Int.natCast_mul,Int.natCast_pow,Int.natCast_pow,Int.natCast_pow] at this
  exact this
 have hc:((iv x).natAbs:Int)=iv x\/((iv x).natAbs:Int)=-iv x:=by omega
 have key:p2 a<=2*(vS x a b*p2 a)\/p2 a<=2*(-vS x a b*p2 a):=by
  rcases hc with hc|hc
  ·left
   rw[hc] at h1
   have s1:=Rat.intCast_le_intCast.2 h1
   simp only[Rat.intCast_mul,p2_int] at s1
   rw[show((2:Int):Rat)=2 from rfl] at s1
   have t1:=Rat.mul_le_mul_of_nonneg_right s1 (Rat.le_of_lt hu)
   rw[e2] at t1
   rw[e];unfold rv;grind
  ·right
   rw[hc] at h1
   have s1:=Rat.intCast_le_intCast.2 h1
   simp only[Rat.intCast_mul,Rat.intCast_neg,p2_int] at s1
   rw[show((2:Int):Rat)=2 from rfl] at s1
   have t1:=Rat.mul_le_mul_of_nonneg_right s1 (Rat.le_of_lt hu)
   rw[e2] at t1
   rw[Rat.neg_mul,e];unfold rv;grind
 have hd:1/2<=vS x a b\/1/2<=-vS x a b:=by
  rcases key with k|k
  ·left;exact le_cancel hp (by grind)
  ·right;exact le_cancel hp (by grind)
 rcases hd with k|k
 ·have:=Rat.mul_nonneg (a:=vS x a b-1/2) (b:=vS x a b+1/2) (by grind) (by grind)
  grind
 ·have:=Rat.mul_nonneg (a:=-vS x a b-1/2) (b:=-vS x a b+1/2) (by grind) (by grind)
  grind
end Go.Proofs.YtfedabinindpbaaGreat
