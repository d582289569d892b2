/- math.ldexp of every finite float that doesn't overflow (printed by gen_al2.py). -/
import Derived.Test.YtfedabinindpbaaGreatX0
import Derived.Test.YtfedabinindpbaaGreatMH5
import Derived.Test.YtfedabinindpbaaGreatMA4
import Derived.Test.YtfedabinindpbaaGreatMH3
set_option maxRecDepth 100000
set_option maxHeartbeats 2000000
set_option linter.unusedSimpArgs false
set_option linter.unusedVariables false
namespace Go.Proofs.YtfedabinindpbaaGreat
open Go.RowKit Go.Lib Fl
theorem andNotS(s x:Nat)(hs:s<2)(h:x<9223372036854775808):bits .andNot .u64 ((s*9223372036854775808+x:Nat):Int) 9218868437227405312=((s*9223372036854775808+x%4503599627370496:Nat):Int):=by
 rcases(show s=0\/s=1 by omega) with rfl|rfl
 ·rw[Nat.zero_mul,Nat.zero_add,Nat.zero_add];exact andNotM x h
 ·rw[Nat.one_mul];exact andNotN x h
theorem orS(s m e:Nat)(hs:s<2)(h:m<4503599627370496)(he:e<2048):bits .or .u64 ((s*9223372036854775808+m:Nat):Int) ((e*4503599627370496:Nat):Int)=((s*9223372036854775808+(e*4503599627370496+m):Nat):Int):=by
 rcases(show s=0\/s=1 by omega) with rfl|rfl
 ·rw[Nat.zero_mul,Nat.zero_add,Nat.zero_add];exact orM m e h he
 ·rw[Nat.one_mul];exact orN m e h he
theorem and2047S(s e:Nat)(hs:s<2)(h:e<2048):bits .and .i64 ((s*2048+e:Nat):Int) 2047=(e:Int):=by
 rcases(show s=0\/s=1 by omega) with rfl|rfl
 ·rw[Nat.zero_mul,Nat.zero_add];exact and2047I e h
 ·rw[Nat.one_mul];exact and2047J e h
theorem signS(s x:Nat)(hs:s<2)(h:x<9223372036854775808):bits .and .u64 ((s*9223372036854775808+x:Nat):Int) 9223372036854775808=((s*9223372036854775808:Nat):Int):=by
 have:=u64_and_nat (s*9223372036854775808+x) 9223372036854775808 (by omega) (by omega)
 rw[show((9223372036854775808:Nat):Int)=9223372036854775808 from rfl] at this
 rw[this]
 congr 1
 have e1:s*9223372036854775808+x=s <<< 63 ||| x:=by rw[<-Nat.shiftLeft_add_eq_or_of_lt (i:=63) h s,Nat.shiftLeft_eq]
 rw[e1]
 apply Nat.eq_of_testBit_eq
 intro i
 rw[Nat.testBit_and,Nat.testBit_or,show(9223372036854775808:Nat)=2^63 from rfl,Nat.testBit_two_pow]
 rcases(show s=0\/s=1 by omega) with rfl|rfl
 ·rw[show(0 <<< 63:Nat)=0 from rfl,Nat.zero_mul,Nat.zero_testBit]
  by_cases hi:63=i
  ·subst hi
   rw[Nat.testBit_lt_two_pow h];rfl
  ·simp[hi]
 ·rw[show(1 <<< 63:Nat)=2^63 from rfl,Nat.one_mul,Nat.testBit_two_pow]
  by_cases hi:63=i<;>simp[hi]
theorem copysign_any(s x:Nat)(w:World)(hs:s<2)(h:x<9223372036854775808):
  Calls Tryz.prog 121 #[.float .f64 0,.float .f64 (s*9223372036854775808+x:Nat)] w λz w'=>z=.returned (.float .f64 (s*9223372036854775808:Nat))/\w=w':=by
 have hbits:=run_bitsF
 have hfrom:=run_fromF
 have a1:=signS s x hs h
 have a2:bits .andNot .u64 0 9223372036854775808=0:=by decide+kernel
 have a3:bits .or .u64 0 ((s*9223372036854775808:Nat):Int)=((s*9223372036854775808:Nat):Int):=by
  have:=u64_or_nat 0 (s*9223372036854775808) (by omega) (by omega)
  rw[Nat.zero_or] at this
  exact this
 have a4:((s*9223372036854775808:Nat):Int).toNat=s*9223372036854775808:=Int.toNat_natCast _
 obtain⟨y,hy⟩:∃y,s*9223372036854775808+x=y:=⟨_,rfl⟩
 obtain⟨q,hq⟩:∃q,s*9223372036854775808=q:=⟨_,rfl⟩
 rw[hy] at a1|-
 rw[hq] at a1 a3 a4|-
 clear hy hq
 go_enter Tryz.func121,Tryz.ntmps121
 go_wp2
 go_ret
 exact⟨rfl,rfl⟩
theorem ldexp_A(x s E m R:Nat)(k d:Int)(w:World)(hx:x<18446744073709551616)(hs:s<2)(h1:1<=E)(h2:E<=2046)(hm:m<4503599627370496)(k1:-3000<=k)(k2:k<=3000)(d1:-60<=d)(d2:d<=0)(c0:(FloatKind.f64.format.order x 0==some Ordering.eq)=false)(c1:(FloatKind.f64.format.order x x != some Ordering.eq)=false)(c2:(FloatKind.f64.format.order (x%9223372036854775808) 9218868437227405311==some Ordering.gt)=false)(c3:∀w,Calls Tryz.prog 120 #[.float .f64 x] w λz w'=>z=.returned (.tuple #[.float .f64 (s*9223372036854775808+(E*4503599627370496+m):Nat),.int .i64 d])/\w=w')(hA:k+d+(E:Int)< -52):
  Calls Tryz.prog 96 #[.float .f64 x,.int .i64 k] w λz w'=>z=.returned (.float .f64 (s*9223372036854775808:Nat))/\w=w':=by
 have hbits:=run_bitsF
 have hfrom:=run_fromF
 have C1:=aZ (λw=>isnanF_any x _ w c1)
 have C2:=aZ (λw=>isinfF_any x false w hx c2)
 have C3:=aZ c3
 have hy:E*4503599627370496+m<9223372036854775808:=by omega
 have C4:=aZ (λw=>copysign_any s (E*4503599627370496+m) w hs hy)
 have a2:=andNotS s (E*4503599627370496+m) hs hy
 have e2:(E*4503599627370496+m)%4503599627370496=m:=by omega
 rw[e2] at a2
 clear c1 c2 c3
 obtain⟨y,hyy⟩:∃y,s*9223372036854775808+(E*4503599627370496+m)=y:=⟨_,rfl⟩
 rw[hyy] at C3 C4 a2
 obtain⟨z0,hz0⟩:∃z0,s*9223372036854775808=z0:=⟨_,rfl⟩
 obtain⟨k0,hk0⟩:∃k0,wrap64 (k+d)=k0:=⟨_,rfl⟩
 have hkk:k0=k+d:=by rw[<-hk0];unfold wrap64;omega
 obtain⟨q1,hq1⟩:∃q1,(y:Int)/4503599627370496=q1:=⟨_,rfl⟩
 have hqq:q1=((s*2048+E:Nat):Int):=by rw[<-hq1,<-hyy];omega
 obtain⟨q2,hq2⟩:∃q2,wrap64 q1=q2:=⟨_,rfl⟩
 have hqq2:q2=((s*2048+E:Nat):Int):=by rw[<-hq2,hqq];unfold wrap64;omega
 obtain⟨q3,hq3⟩:∃q3,bits .and .i64 q2 2047=q3:=⟨_,rfl⟩
 have hqq3:q3=E:=by rw[<-hq3,hqq2];exact and2047S s E hs (by omega)
 obtain⟨q4,hq4⟩:∃q4,wrap64 (q3-1023)=q4:=⟨_,rfl⟩
 have hqq4:q4=(E:Int)-1023:=by rw[<-hq4,hqq3];unfold wrap64;omega
 obtain⟨g,hg⟩:∃g,wrap64 (k0+q4)=g:=⟨_,rfl⟩
 have hgg:g=k+d+(E:Int)-1023:=by rw[<-hg,hkk,hqq4];unfold wrap64;omega
 have g1:g< -1075:=by omega
 rw[hz0] at C4|-
 clear e2 hyy a2 hkk hqq hqq2 hqq3 hqq4 hgg hz0 k1 k2 d1 d2 hA
 go_enter Tryz.func96,Tryz.ntmps96
 go_wp2_with fail
 refine(C2.out _).mono ?_
 rintro z w' ⟨rfl,rfl⟩
 go_wp2_with fail
 refine(C1.out _).mono ?_
 rintro z w' ⟨rfl,rfl⟩
 go_wp2_with fail
 refine(C3.out _).mono ?_
 rintro z w' ⟨rfl,rfl⟩
 go_wp2_with fail
 refine(C4.out _).mono ?_
 rintro z w' ⟨rfl,rfl⟩
 go_wp2
 go_ret
 exact⟨rfl,rfl⟩
theorem ldexp_B(x s E m R:Nat)(k d:Int)(w:World)(hx:x<18446744073709551616)(hs:s<2)(h1:1<=E)(h2:E<=2046)(hm:m<4503599627370496)(k1:-3000<=k)(k2:k<=3000)(d1:-60<=d)(d2:d<=0)(c0:(FloatKind.f64.format.order x 0==some Ordering.eq)=false)(c1:(FloatKind.f64.format.order x x != some Ordering.eq)=false)(c2:(FloatKind.f64.format.order (x%9223372036854775808) 9218868437227405311==some Ordering.gt)=false)(c3:∀w,Calls Tryz.prog 120 #[.float .f64 x] w λz w'=>z=.returned (.tuple #[.float .f64 (s*9223372036854775808+(E*4503599627370496+m):Nat),.int .i64 d])/\w=w')(hB:1<=k+d+(E:Int))(hB2:k+d+(E:Int)<=2046)(hr:fmul 4607182418800017408 (s*9223372036854775808+((k+d+(E:Int)).toNat*4503599627370496+m))=some R):
  Calls Tryz.prog 96 #[.float .f64 x,.int .i64 k] w λz w'=>z=.returned (.float .f64 R)/\w=w':=by
 have hbits:=run_bitsF
 have hfrom:=run_fromF
 have C1:=aZ (λw=>isnanF_any x _ w c1)
 have C2:=aZ (λw=>isinfF_any x false w hx c2)
 have C3:=aZ c3
 have hy:E*4503599627370496+m<9223372036854775808:=by omega
 have C4:=aZ (λw=>copysign_any s (E*4503599627370496+m) w hs hy)
 have a2:=andNotS s (E*4503599627370496+m) hs hy
 have e2:(E*4503599627370496+m)%4503599627370496=m:=by omega
 rw[e2] at a2
 clear c1 c2 c3
 obtain⟨F,hF⟩:∃F:Nat,F=(k+d+(E:Int)).toNat:=⟨_,rfl⟩
 have hF1:1<=F/\F<=2046:=by omega
 rw[<-hF] at hr
 have a3:=orS s m F hs hm (by omega)
 have hmm:=hmulF hr
 obtain⟨y,hyy⟩:∃y,s*9223372036854775808+(E*4503599627370496+m)=y:=⟨_,rfl⟩
 rw[hyy] at C3 C4 a2
 obtain⟨z0,hz0⟩:∃z0,s*9223372036854775808=z0:=⟨_,rfl⟩
 obtain⟨k0,hk0⟩:∃k0,wrap64 (k+d)=k0:=⟨_,rfl⟩
 have hkk:k0=k+d:=by rw[<-hk0];unfold wrap64;omega
 obtain⟨q1,hq1⟩:∃q1,(y:Int)/4503599627370496=q1:=⟨_,rfl⟩
 have hqq:q1=((s*2048+E:Nat):Int):=by rw[<-hq1,<-hyy];omega
 obtain⟨q2,hq2⟩:∃q2,wrap64 q1=q2:=⟨_,rfl⟩
 have hqq2:q2=((s*2048+E:Nat):Int):=by rw[<-hq2,hqq];unfold wrap64;omega
 obtain⟨q3,hq3⟩:∃q3,bits .and .i64 q2 2047=q3:=⟨_,rfl⟩
 have hqq3:q3=E:=by rw[<-hq3,hqq2];exact and2047S s E hs (by omega)
 obtain⟨q4,hq4⟩:∃q4,wrap64 (q3-1023)=q4:=⟨_,rfl⟩
 have hqq4:q4=(E:Int)-1023:=by rw[<-hq4,hqq3];unfold wrap64;omega
 obtain⟨g,hg⟩:∃g,wrap64 (k0+q4)=g:=⟨_,rfl⟩
 have hgg:g=k+d+(E:Int)-1023:=by rw[<-hg,hkk,hqq4];unfold wrap64;omega
 obtain⟨sm,hsm⟩:∃sm:Int,((s*9223372036854775808+m:Nat):Int)=sm:=⟨_,rfl⟩
 rw[hsm] at a2
 have g1:¬g< -1075:=by omega
 have g2':¬g>1023:=by omega
 have g3:¬g< -1022:=by omega
 have hor:bits .or .u64 (sm:Int) ((g+1023)*4503599627370496)=((s*9223372036854775808+(F*4503599627370496+m):Nat):Int):=by rw[<-hsm,<-a3];congr 1;omega
 have ht:((s*9223372036854775808+(F*4503599627370496+m):Nat):Int).toNat=s*9223372036854775808+(F*4503599627370496+m):=Int.toNat_natCast _
 obtain⟨V,hV⟩:∃V,s*9223372036854775808+(F*4503599627370496+m)=V:=⟨_,rfl⟩
 rw[hV] at hmm hor ht
 clear e2 hyy hz0 hkk hqq hqq2 hqq3 hqq4 a3 hr hV hsm C4 hF k1 k2 d1 d2 hB hB2 hgg
 go_enter Tryz.func96,Tryz.ntmps96
 go_wp2_with fail
 refine(C2.out _).mono ?_
 rintro z w' ⟨rfl,rfl⟩
 go_wp2_with fail
 refine(C1.out _).mono ?_
 rintro z w' ⟨rfl,rfl⟩
 go_wp2_with fail
 refine(C3.out _).mono ?_
 rintro z w' ⟨rfl,rfl⟩
 go_wp2_with (first|simp only[hmm]|fail)
 go_ret
 exact⟨rfl,rfl⟩
theorem ldexp_C(x s E m R:Nat)(k d:Int)(w:World)(hx:x<18446744073709551616)(hs:s<2)(h1:1<=E)(h2:E<=2046)(hm:m<4503599627370496)(k1:-3000<=k)(k2:k<=3000)(d1:-60<=d)(d2:d<=0)(c0:(FloatKind.f64.format.order x 0==some Ordering.eq)=false)(c1:(FloatKind.f64.format.order x x != some Ordering.eq)=false)(c2:(FloatKind.f64.format.order (x%9223372036854775808) 9218868437227405311==some Ordering.gt)=false)(c3:∀w,Calls Tryz.prog 120 #[.float .f64 x] w λz w'=>z=.returned (.tuple #[.float .f64 (s*9223372036854775808+(E*4503599627370496+m):Nat),.int .i64 d])/\w=w')(hB:-52<=k+d+(E:Int))(hB2:k+d+(E:Int)<1)(hr:fmul 4368491638549381120 (s*9223372036854775808+((k+d+(E:Int)+53).toNat*4503599627370496+m))=some R):
  Calls Tryz.prog 96 #[.float .f64 x,.int .i64 k] w λz w'=>z=.returned (.float .f64 R)/\w=w':=by
 have hbits:=run_bitsF
 have hfrom:=run_fromF
 have C1:=aZ (λw=>isnanF_any x _ w c1)
 have C2:=aZ (λw=>isinfF_any x false w hx c2)
 have C3:=aZ c3
 have hy:E*4503599627370496+m<9223372036854775808:=by omega
 have C4:=aZ (λw=>copysign_any s (E*4503599627370496+m) w hs hy)
 have a2:=andNotS s (E*4503599627370496+m) hs hy
 have e2:(E*4503599627370496+m)%4503599627370496=m:=by omega
 rw[e2] at a2
 clear c1 c2 c3
 obtain⟨F,hF⟩:∃F:Nat,F=(k+d+(E:Int)+53).toNat:=⟨_,rfl⟩
 have hF1:1<=F/\F<=2046:=by omega
 rw[<-hF] at hr
 have a3:=orS s m F hs hm (by omega)
 have hmm:=hmulF hr
 obtain⟨y,hyy⟩:∃y,s*9223372036854775808+(E*4503599627370496+m)=y:=⟨_,rfl⟩
 rw[hyy] at C3 C4 a2
 obtain⟨z0,hz0⟩:∃z0,s*9223372036854775808=z0:=⟨_,rfl⟩
 obtain⟨k0,hk0⟩:∃k0,wrap64 (k+d)=k0:=⟨_,rfl⟩
 have hkk:k0=k+d:=by rw[<-hk0];unfold wrap64;omega
 obtain⟨q1,hq1⟩:∃q1,(y:Int)/4503599627370496=q1:=⟨_,rfl⟩
 have hqq:q1=((s*2048+E:Nat):Int):=by rw[<-hq1,<-hyy];omega
 obtain⟨q2,hq2⟩:∃q2,wrap64 q1=q2:=⟨_,rfl⟩
 have hqq2:q2=((s*2048+E:Nat):Int):=by rw[<-hq2,hqq];unfold wrap64;omega
 obtain⟨q3,hq3⟩:∃q3,bits .and .i64 q2 2047=q3:=⟨_,rfl⟩
 have hqq3:q3=E:=by rw[<-hq3,hqq2];exact and2047S s E hs (by omega)
 obtain⟨q4,hq4⟩:∃q4,wrap64 (q3-1023)=q4:=⟨_,rfl⟩
 have hqq4:q4=(E:Int)-1023:=by rw[<-hq4,hqq3];unfold wrap64;omega
 obtain⟨g,hg⟩:∃g,wrap64 (k0+q4)=g:=⟨_,rfl⟩
 have hgg:g=k+d+(E:Int)-1023:=by rw[<-hg,hkk,hqq4];unfold wrap64;omega
 obtain⟨sm,hsm⟩:∃sm:Int,((s*9223372036854775808+m:Nat):Int)=sm:=⟨_,rfl⟩
 rw[hsm] at a2
 have g1:¬g< -1075:=by omega
 have g2':¬g>1023:=by omega
 have g3:g< -1022:=by omega
 have g5:0<=g+53+1023:=by omega
 have g6:g+53+1023<2048:=by omega
 have hor:bits .or .u64 (sm:Int) ((g+53+1023)*4503599627370496)=((s*9223372036854775808+(F*4503599627370496+m):Nat):Int):=by rw[<-hsm,<-a3];congr 1;omega
 have ht:((s*9223372036854775808+(F*4503599627370496+m):Nat):Int).toNat=s*9223372036854775808+(F*4503599627370496+m):=Int.toNat_natCast _
 obtain⟨V,hV⟩:∃V,s*9223372036854775808+(F*4503599627370496+m)=V:=⟨_,rfl⟩
 rw[hV] at hmm hor ht
 clear e2 hyy hz0 hkk hqq hqq2 hqq3 hqq4 a3 hr hV hsm C4 hF k1 k2 d1 d2 hB hB2 hgg
 go_enter Tryz.func96,Tryz.ntmps96
 go_wp2_with fail
 refine(C2.out _).mono ?_
 rintro z w' ⟨rfl,rfl⟩
 go_wp2_with fail
 refine(C1.out _).mono ?_
 rintro z w' ⟨rfl,rfl⟩
 go_wp2_with fail
 refine(C3.out _).mono ?_
 rintro z w' ⟨rfl,rfl⟩
 go_wp2_with (first|simp only[hmm]|fail)
 go_ret
 exact⟨rfl,rfl⟩
end Go.Proofs.YtfedabinindpbaaGreat
namespace Go.Proofs.YtfedabinindpbaaGreat
open Go.RowKit Go.Lib Fl CG
theorem word_split{x:Nat}(hx:Fnt x):∃s r:Nat,s<2/\r<9218868437227405312/\x=s*9223372036854775808+r/\iv x=(if s=0 then 1 else-1)*iv r/\x%9223372036854775808=r:=by
 obtain⟨h1,h2⟩:=hx
 refine⟨x/9223372036854775808,x%9223372036854775808,by omega,by omega,by omega,?_,rfl⟩
 rcases(show x/9223372036854775808=0\/x/9223372036854775808=1 by omega) with h|h
 ·rw[h,if_pos rfl,Int.one_mul,show x%9223372036854775808=x by omega]
 ·rw[h,if_neg (by decide)]
  have:=iv_sgn (r:=x%9223372036854775808) (by omega)
  rw[show 9223372036854775808+x%9223372036854775808=x by omega] at this
  rw[this,Int.neg_mul,Int.one_mul]
theorem ord_nat{r q:Nat}(hr:r<9218868437227405312)(hq:q<9218868437227405312):FloatKind.f64.format.order r q=some (compare r q):=by
 have:FloatKind.f64.format.order r q=some (compare (iv r) (iv q)):=order_spec ⟨by omega,by omega⟩ ⟨by omega,by omega⟩
 rw[this]
 congr 1
 rcases Nat.lt_trichotomy r q with h|h|h
 ·have:=iv_grow (r:=r) (q-r) (by omega) (by omega)
  rw[show r+(q-r)=q by omega] at this
  rw[Int.compare_eq_lt.2 this,Nat.compare_eq_lt.2 h]
 ·rw[h,Int.compare_eq_eq.2 rfl,Nat.compare_eq_eq.2 rfl]
 ·have:=iv_grow (r:=q) (r-q) (by omega) (by omega)
  rw[show q+(r-q)=r by omega] at this
  rw[Int.compare_eq_gt.2 this,Nat.compare_eq_gt.2 h]
theorem norm_tiny(x y:Nat)(w:World)(hx:x<18446744073709551616)(hv:(FloatKind.f64.format.order (x%9223372036854775808) 4503599627370496==some Ordering.lt)=true)(hy:fmul x 4841369599423283200=some y):
  Calls Tryz.prog 120 #[.float .f64 x] w λz w'=>z=.returned (.tuple #[.float .f64 y,.int .i64 (-52)])/\w=w':=by
 replace hy:=hmulF hy
 go_enter Tryz.func120,Tryz.ntmps120
 go_wp2_with fail
 refine(absF_any x _ hx).mono ?_
 rintro z w' ⟨rfl,rfl⟩
 go_wp2_with (first|simp only[hy]|fail)
 go_ret2
 exact⟨rfl,rfl⟩
theorem ldexp_null(x:Nat)(k:Int)(w:World)(c0:(FloatKind.f64.format.order x 0==some Ordering.eq)=true):Calls Tryz.prog 96 #[.float .f64 x,.int .i64 k] w λz w'=>z=.returned (.float .f64 x)/\w=w':=by
 go_enter Tryz.func96,Tryz.ntmps96
 go_wp2
 go_ret
 exact⟨rfl,rfl⟩
theorem iv_p52':Fnt 4841369599423283200/\iv 4841369599423283200=2^52*2^U:=by
 refine⟨by decide,?_⟩
 have:=@iv_pos 1075 0 (by omega) (by omega) (by omega)
 rw[show 1075*4503599627370496+0=4841369599423283200 from rfl] at this
 rw[this,U_eq]
 rfl
theorem iv_one':Fnt 4607182418800017408/\iv 4607182418800017408=2^U:=by
 refine⟨by decide,?_⟩
 have:=@iv_pos 1023 0 (by omega) (by omega) (by omega)
 rw[show 1023*4503599627370496+0=4607182418800017408 from rfl] at this
 rw[this,U_eq,show(1074:Nat)=52+(1023-1) from rfl,Int.pow_add]
 rfl
theorem iv_p53':Fnt 4368491638549381120/\iv 4368491638549381120*9007199254740992=2^U:=by
 refine⟨by decide,?_⟩
 have:=@iv_pos 970 0 (by omega) (by omega) (by omega)
 rw[show 970*4503599627370496+0=4368491638549381120 from rfl] at this
 rw[this,U_eq,show(1074:Nat)=52+(970-1)+53 from rfl,Int.pow_add,Int.pow_add]
 rfl
theorem norm_word{x:Nat}(hx:Fnt x)(h0:iv x≠0):∃(s E m dd:Nat),s<2/\1<=E/\E<=2046/\m<4503599627370496/\dd<=52/\
  (∀w,Calls Tryz.prog 120 #[.float .f64 x] w λz w'=>z=.returned (.tuple #[.float .f64 (s*9223372036854775808+(E*4503599627370496+m):Nat),.int .i64 (-(dd:Int))])/\w=w')/\
  iv x*2^dd=(if s=0 then 1 else-1)*(((4503599627370496+m:Nat):Int)*2^(E-1)):=by
 obtain⟨s,r,hs,hr,ex,ev,em⟩:=word_split hx
 have fx:=hx.1
 by_cases ht:r<4503599627370496
 ·obtain⟨f2,v2⟩:=iv_p52'
  have hlow:iv r=(r:Int):=by rw[iv_low hr (l:=0) (q:=r) (by omega) (by omega)];simp
  have hab:(iv x).natAbs=r:=by
   rw[ev,hlow,Int.natAbs_mul]
   split<;>simp
  have hb:(iv x*2^52).natAbs<2^Bt:=by
   rw[Int.natAbs_mul,Int.natAbs_pow,hab]
   have h1:r*2^52<2^52*2^52:=Nat.mul_lt_mul_of_pos_right (by omega) (Nat.two_pow_pos _)
   rw[<-Nat.pow_add] at h1
   exact Nat.lt_of_lt_of_le h1 (Nat.pow_le_pow_right (by decide) (by have:=Bt_eq;omega))
  obtain⟨y,hy,fy,vy⟩:=fmul_whole hx f2 (p:=iv x*2^52) (by rw[v2,Int.mul_assoc]) hb
  rw[rnd_scale,(rep_iv hx).rnd_eq] at vy
  obtain⟨t,q,ht2,hq,ey,evy,emy⟩:=word_split fy
  have hq1:4503599627370496<=q:=by
   rcases Nat.lt_or_ge q 4503599627370496 with h|h
   ·exfalso
    have hl2:iv q=(q:Int):=by rw[iv_low hq (l:=0) (q:=q) (by omega) (by omega)];simp
    have hab2:(iv y).natAbs=q:=by
     rw[evy,hl2,Int.natAbs_mul]
     split<;>simp
    rw[vy,Int.natAbs_mul,Int.natAbs_pow,hab] at hab2
    have:r≠0:=by intro e;rw[e] at hab;exact h0 (Int.natAbs_eq_zero.1 hab)
    have e2:(2:Int).natAbs^52=4503599627370496:=rfl
    rw[e2] at hab2
    omega
   ·exact h
  refine⟨t,q/4503599627370496,q%4503599627370496,52,ht2,by omega,by omega,by omega,by omega,?_,?_⟩
  ·intro w
   rw[show t*9223372036854775808+(q/4503599627370496*4503599627370496+q%4503599627370496)=y by omega]
   exact norm_tiny x y w fx (by rw[em,ord_nat hr (by omega),Nat.compare_eq_lt.2 ht];rfl) hy
  ·rw[<-vy,evy]
   congr 1
   have:=@iv_pos (q/4503599627370496) (q%4503599627370496) (by omega) (by omega) (by omega)
   rw[show q/4503599627370496*4503599627370496+q%4503599627370496=q by omega] at this
   exact this
 ·refine⟨s,r/4503599627370496,r%4503599627370496,0,hs,by omega,by omega,by omega,by omega,?_,?_⟩
  ·intro w
   rw[show s*9223372036854775808+(r/4503599627370496*4503599627370496+r%4503599627370496)=x by omega]
   refine normF_any x w fx ?_
   rw[em,ord_nat hr (by omega)]
   rcases Nat.lt_or_ge 4503599627370496 r with h|h
   ·rw[Nat.compare_eq_gt.2 h];rfl
   ·rw[Nat.compare_eq_eq.2 (by omega)];rfl
  ·rw[ev,Int.pow_zero,Int.mul_one]
   congr 1
   have:=@iv_pos (r/4503599627370496) (r%4503599627370496) (by omega) (by omega) (by omega)
   rw[show r/4503599627370496*4503599627370496+r%4503599627370496=r by omega] at this
   exact this
end Go.Proofs.YtfedabinindpbaaGreat
namespace Go.Proofs.YtfedabinindpbaaGreat
open Go.RowKit Go.Lib Fl
def FlA(w:World)(A:Option Addr)(n:Nat)(f:Nat->Nat):Prop:=∀i,i<n->∃b o,A=some ⟨b,o,none⟩/\w.cell? ⟨b,o+i,none⟩=some (.float .f64 (f i))
theorem FlA.keep{W w1:World}{A:Option Addr}{n:Nat}{f:Nat->Nat}(hb:Below W.heap.size W w1)(h:FlA W A n f):FlA w1 A n f:=λi hi=>by
 obtain⟨b,o,e,hc⟩:=h i hi
 exact⟨b,o,e,keep_cell hb hc⟩
theorem fin_low{x:Nat}(hx:x<18446744073709551616):finB x=true↔Fnt x:=by
 unfold finB Fnt
 simp
 omega
theorem frexpG(x y:Nat)(d:Int)(w:World)(hx:x<18446744073709551616)(hy:y<18446744073709551616)(hd:-60<=d)(hd0:d<=0)(h0:(FloatKind.f64.format.order x 0==some Ordering.eq)=false)(h1:(FloatKind.f64.format.order x x != some Ordering.eq)=false)(h2:(FloatKind.f64.format.order (x%9223372036854775808) 9218868437227405311==some Ordering.gt)=false)(h3:∀w,Calls Tryz.prog 120 #[.float .f64 x] w λz w'=>z=.returned (.tuple #[.float .f64 y,.int .i64 d])/\w=w'):
  Calls Tryz.prog 99 #[.float .f64 x] w λz w'=>∃r,z=.returned (.tuple #[.float .f64 r,.int .i64 (d+(((y/4503599627370496%2048:Nat):Int)-1022))])/\w=w':=by
 have hbits:=run_bitsF
 have hfrom:=run_fromF
 have C1:=aZ (λw=>isnanF_any x _ w h1)
 have C2:=aZ (λw=>isinfF_any x _ w hx h2)
 have C3:=aZ h3
 clear h3 h1 h2
 have a1:=and2047F y hy
 obtain⟨e,he⟩:∃e,e=y/4503599627370496%2048:=⟨_,rfl⟩
 rw[<-he] at a1|-
 have hel:e<2048:=by omega
 obtain⟨E,hE⟩:∃E:Int,E=d+((e:Int)-1022):=⟨_,rfl⟩
 have hE2:d+((e:Int)-1023+1)=E:=by omega
 rw[<-hE]
 clear he hE
 go_enter Tryz.func99,Tryz.ntmps99
 go_wp2_with fail
 refine(C2.out _).mono ?_
 rintro z w' ⟨rfl,rfl⟩
 go_wp2_with fail
 refine(C1.out _).mono ?_
 rintro z w' ⟨rfl,rfl⟩
 go_wp2_with fail
 refine(C3.out _).mono ?_
 rintro z w' ⟨rfl,rfl⟩
 go_wp2
 go_ret2
 exact⟨_,rfl,rfl⟩
theorem frexp2G(x:Nat)(K:Int)(w:World)(hK:∀w,Calls Tryz.prog 99 #[.float .f64 x] w λz w'=>∃r,z=.returned (.tuple #[.float .f64 r,.int .i64 K])/\w=w'):
  Calls Tryz.prog 68 #[.float .f64 x] w λz w'=>∃r,z=.returned (.tuple #[.float .f64 r,.int .i64 K])/\w=w':=by
 have C:=aZ hK
 clear hK
 go_enter Tryz.func68,Tryz.ntmps68
 go_wp2_with fail
 refine(C.out _).mono ?_
 rintro z w' ⟨r,rfl,rfl⟩
 go_wp2
 go_ret2
 exact⟨r,rfl,rfl⟩
theorem nan_fnt{x:Nat}(fx:Fnt x):(FloatKind.f64.format.order x x != some Ordering.eq)=false:=by
 have:FloatKind.f64.format.order x x=some (compare (iv x) (iv x)):=order_spec fx fx
 rw[this,Int.compare_eq_eq.2 rfl];rfl
theorem inf_fnt{x:Nat}(fx:Fnt x):(FloatKind.f64.format.order (x%9223372036854775808) 9218868437227405311==some Ordering.gt)=false:=by
 have h:=fx.2
 rw[ord_nat (by omega) (by omega)]
 rcases Nat.lt_or_ge (x%9223372036854775808) 9218868437227405311 with g|g
 ·rw[Nat.compare_eq_lt.2 g];rfl
 ·rw[Nat.compare_eq_eq.2 (by omega)];rfl
theorem nf_cases{x:Nat}(hx:x<18446744073709551616)(hf:finB x=false):(FloatKind.f64.format.order x x != some Ordering.eq)=true\/(FloatKind.f64.format.order (x%9223372036854775808) 9218868437227405311==some Ordering.gt)=true:=by
 have he:x%9223372036854775808/4503599627370496=2047:=by unfold finB at hf;simpa using hf
 by_cases hi:x%9223372036854775808=9218868437227405312
 ·right;rw[hi];kernel_rfl
 ·left
  have h4:x%2^63=x%9223372036854775808:=rfl
  show(D.order x x != some .eq)=true
  unfold Ieee.Format.order Ieee.Format.read
  rw[D_least,D_binade,D_sign,D_inf]
  simp only[h4]
  rw[if_neg (by omega),if_neg (by omega),if_neg (show ¬x%9223372036854775808=2047*2^52 from hi)]
  simp only[Ieee.Datum.order]
  rfl
theorem iv_mono{r q:Nat}(h:r<=q)(hq:q<9218868437227405312):iv r<=iv q:=by
 rcases Nat.lt_or_ge r q with g|g
 ·have:=iv_grow (r:=r) (q-r) (by omega) (by omega)
  rw[show r+(q-r)=q by omega] at this
  omega
 ·rw[show r=q by omega];exact Int.le_refl _
theorem iv_nnA{r:Nat}(hq:r<9218868437227405312):0<=iv r:=by
 have:=iv_mono (Nat.zero_le r) hq
 rwa [iv_zero] at this
theorem iv_abs0{x:Nat}(fx:Fnt x):((iv x).natAbs:Int)=iv (x%9223372036854775808):=by
 obtain⟨s,r,h1,h2,h3,h4,h5⟩:=word_split fx
 have:=iv_nnA h2
 rw[h5,h4]
 split<;>omega
theorem frexp_top{x:Nat}(fx:Fnt x)(hp:0<iv x):∃(K:Int) (E:Nat),(∀w,Calls Tryz.prog 68 #[.float .f64 x] w λz w'=>∃r,z=.returned (.tuple #[.float .f64 r,.int .i64 K])/\w=w')/\
  (E:Int)=K+1074/\iv x<((2^E:Nat):Int)/\((2^(E-1):Nat):Int)<=iv x/\1<=E/\E<=2098:=by
 obtain⟨s,E,m,dd,hs,hE,hE2,hm,hdd,hn,hv⟩:=norm_word fx (by omega)
 have hdd2:0<=dd:=Nat.zero_le _
 obtain rfl:s=0:=by
  rcases(show s=0\/s=1 by omega) with h|rfl
  ·exact h
  ·exfalso
   rw[if_neg (by decide)] at hv
   have h1:0<iv x*2^dd:=Int.mul_pos hp (pow_pos_int dd)
   have h2:(0:Int)<((4503599627370496+m:Nat):Int)*2^(E-1):=Int.mul_pos (by omega) (pow_pos_int _)
   omega
 rw[if_pos rfl,Int.one_mul] at hv
 have z0:(FloatKind.f64.format.order x 0==some Ordering.eq)=false:=by
  have:FloatKind.f64.format.order x 0=some (compare (iv x) (iv 0)):=order_spec fx (by decide)
  rw[this,iv_zero,Int.compare_eq_gt.2 hp];rfl
 obtain⟨y,hy⟩:∃y,y=0*9223372036854775808+(E*4503599627370496+m):=⟨_,rfl⟩
 rw[<-hy] at hn
 have hyE:y/4503599627370496%2048=E:=by omega
 have hF:1<=52+E-dd:=by omega
 obtain⟨F,hF2⟩:∃F,F=52+E-dd:=⟨_,rfl⟩
 have hvN:(iv x).toNat*2^dd=(4503599627370496+m)*2^(E-1):=by
  have h1:((iv x).toNat:Int)=iv x:=Int.toNat_of_nonneg (by omega)
  have h2:(((iv x).toNat*2^dd:Nat):Int)=((4503599627370496+m)*2^(E-1):Nat):=by
   rw[Int.natCast_mul,Int.natCast_mul,Int.natCast_pow,Int.natCast_pow,h1]
   exact hv
  exact Int.ofNat_inj.1 h2
 have b1:(iv x).toNat<2^F:=by
  apply Nat.lt_of_mul_lt_mul_right (a:=2^dd)
  rw[hvN,<-Nat.pow_add,show F+dd=53+(E-1) by omega,Nat.pow_add]
  exact Nat.mul_lt_mul_of_pos_right (by omega) (Nat.two_pow_pos _)
 have b2:2^(F-1)<=(iv x).toNat:=by
  apply Nat.le_of_mul_le_mul_right (c:=2^dd) _ (Nat.two_pow_pos _)
  rw[hvN,<-Nat.pow_add,show F-1+dd=52+(E-1) by omega,Nat.pow_add]
  exact Nat.mul_le_mul_right _ (by omega)
 refine⟨-(dd:Int)+(((y/4503599627370496%2048:Nat):Int)-1022),F,λw=>frexp2G x _ w (λw=>frexpG x y (-(dd:Int)) w fx.1 (by omega) (by omega) (by omega) z0 (nan_fnt fx) (inf_fnt fx) hn),by omega,?_,?_,by omega,by omega⟩
 ·generalize 2^F=q at*;omega
 ·generalize 2^(F-1)=q at*;omega
def TopIs(f:Nat->Nat)(n:Nat)(K:Int)(ok:Bool):Prop:=
 (ok=false/\K=0/\∃i,i<n/\finB (f i)=false)\/
 (ok=true/\(∀i,i<n->Fnt (f i))/\∃E:Nat,(E:Int)=K+1074/\E<=2098/\(∀i,i<n->(iv (f i)).natAbs<2^E)/\(E=0\/∃i,i<n/\2^(E-1)<=(iv (f i)).natAbs))
structure MostIs(f:Nat->Nat)(k m:Nat):Prop where
 fm:m<9218868437227405312
 all:∀i,i<k->Fnt (f i)/\f i%9223372036854775808<=m
 is:m=0\/∃i,i<k/\f i%9223372036854775808=m
theorem run_maxF{P:Program}(w:World)(ts:Array TypeId)(t:TypeId){x y:Nat}(hx:x<9218868437227405312)(hy:y<9218868437227405312):
  (Builtin.max_ ts t #[.float .f64 x,.float .f64 y]).run P w=.ok (.float .f64 (max x y)) w:=by
 have e:Builtin.max2 (.float .f64 x) (.float .f64 y)=pure (.float .f64 (max x y)):=by
  unfold Builtin.max2
  have ho:=ord_nat hx hy
  rcases Nat.lt_trichotomy x y with h|h|h
  ·rw[Nat.compare_eq_lt.2 h] at ho
   simp only[ho,Nat.max_eq_right (Nat.le_of_lt h)]
  ·rw[Nat.compare_eq_eq.2 h] at ho
   subst h
   simp only[ho,Nat.max_self]
   simp
  ·rw[Nat.compare_eq_gt.2 h] at ho
   simp only[ho,Nat.max_eq_left (Nat.le_of_lt h)]
 show([Value.float .f64 y].foldlM Builtin.max2 (.float .f64 x)).run P w=_
 simp[List.foldlM,e]
theorem MostIs.step{f:Nat->Nat}{k m:Nat}(h:MostIs f k m)(fx:Fnt (f k)):MostIs f (k+1) (max m (f k%9223372036854775808)):=by
 have h1:=h.fm
 have h2:=fx.2
 refine⟨by omega,λi hi=>?_,?_⟩
 ·rcases(show i<k\/i=k by omega) with g|rfl
  ·exact⟨(h.all i g).1,by have:=(h.all i g).2;omega⟩
  ·exact⟨fx,by omega⟩
 ·rcases Nat.le_total m (f k%9223372036854775808) with g|g
  ·right;exact⟨k,by omega,by omega⟩
  ·rcases h.is with e|⟨i,hi,e⟩
   ·left;omega
   ·right;exact⟨i,by omega,by omega⟩
theorem Top_any(A:Option Addr)(n c:Nat)(f:Nat->Nat)(w:World)(hA:FlA w A n f)(hn:n<=1000)(hf:∀i,i<n->f i<18446744073709551616):
  Calls Tryz.prog 35 #[.slice A n c] w λz w'=>∃r:Int×Bool,z=.returned (.tuple #[.int .i64 r.1,.bool r.2])/\TopIs f n r.1 r.2/\w=w':=by
 have HA:=aZ hA
 have HF:=aZ hf
 clear hA hf
 go_enter Tryz.func35,Tryz.ntmps35
 go_wp2
 go_loopw [4,6,11] (λm a i wr=>∃k x:Nat,k<=n/\i=.int .i64 k/\m=.float .f64 x/\Hid (MostIs f k x)/\Hid (w=wr)) (λ_ _ i _=>n-(intOf i).toNat)
 case atStart=>exact⟨0,0,by omega,rfl,rfl,aZ ⟨by omega,λi hi=>by omega,.inl rfl⟩,aZ rfl⟩
 case round=>
  obtain⟨k,x,hk,rfl,rfl,hm,hw⟩:=hrel
  obtain rfl:=hw.out
  by_cases hlt:k<n
  ·obtain⟨b,o,rfl,hc⟩:=HA.out k hlt
   obtain⟨y,hy⟩:∃y,f k=y:=⟨_,rfl⟩
   have hyl:y<18446744073709551616:=by rw[<-hy];exact HF.out k hlt
   rw[hy] at hc
   have HY:=aZ hy
   have HYL:=aZ hyl
   clear hy hyl
   by_cases hfin:finB y=true
   ·have fy:=(fin_low HYL.out).1 hfin
    have HM':Hid (MostIs f (k+1) (max x (y%9223372036854775808))):=aZ (by have:=MostIs.step hm.out (by rw[HY.out];exact fy);rwa [HY.out] at this)
    have n1:=aZ (λw=>isnanF_any y false w (nan_fnt fy))
    have i1:=aZ (λw=>isinfF_any y false w fy.1 (inf_fnt fy))
    have a1:=aZ (λw=>absF_any y w fy.1)
    obtain⟨q,hq⟩:∃q,q=y%9223372036854775808:=⟨_,rfl⟩
    have m1:∀ts t w,(Builtin.max_ ts t #[.float .f64 x,.float .f64 q]).run Tryz.prog w=.ok (.float .f64 (max x q)) w:=λts t w=>run_maxF w ts t hm.out.fm (by rw[hq];exact fy.2)
    rw[<-hq] at HM'
    obtain⟨r,hr⟩:∃r,r=max x q:=⟨_,rfl⟩
    rw[<-hr] at HM'
    simp only[<-hr] at m1
    have A1:Hid (∀w,Calls Tryz.prog 67 #[.float .f64 y] w λz w'=>z=.returned (.float .f64 q)/\w=w'):=aZ (by rw[hq];exact a1.out)
    clear hr fy hq a1
    go_wp2_with fail
    refine(n1.out _).mono ?_
    rintro z w' ⟨rfl,rfl⟩
    go_wp2_with fail
    refine(i1.out _).mono ?_
    rintro z w' ⟨rfl,rfl⟩
    go_wp2_with fail
    refine(A1.out _).mono ?_
    rintro z w' ⟨rfl,rfl⟩
    go_wp2_with (first|simp only[m1]|fail)
    exact⟨⟨k+1,r,by omega,by go_num,rfl,HM',aZ trivial⟩,by simp[intOf];omega⟩
   ·have hfin':finB y=false:=by simpa using hfin
    have bad:TopIs f n 0 false:=.inl ⟨rfl,rfl,k,hlt,by rw[HY.out];exact hfin'⟩
    have BAD:=aZ bad
    obtain⟨v,hv⟩:∃v,(FloatKind.f64.format.order y y != some Ordering.eq)=v:=⟨_,rfl⟩
    have n1:=aZ (λw=>isnanF_any y v w hv)
    cases v
    ·have i1:=aZ (λw=>isinfF_any y true w HYL.out (by
       rcases nf_cases HYL.out hfin' with h|h
       ·rw[h] at hv;cases hv
       ·exact h))
     clear hv bad
     go_wp2_with fail
     refine(n1.out _).mono ?_
     rintro z w' ⟨rfl,rfl⟩
     go_wp2_with fail
     refine(i1.out _).mono ?_
     rintro z w' ⟨rfl,rfl⟩
     go_wp2_with fail
     go_ret2
     exact⟨(0,false),rfl,BAD.out,rfl⟩
    ·clear hv bad
     go_wp2_with fail
     refine(n1.out _).mono ?_
     rintro z w' ⟨rfl,rfl⟩
     go_wp2_with fail
     go_ret2
     exact⟨(0,false),rfl,BAD.out,rfl⟩
  ·obtain rfl:k=n:=by omega
   have hx:=hm.out.fm
   have ob:FloatKind.f64.format.order x 0=some (compare x 0):=ord_nat hx (by omega)
   have ha:∀i,i<k->(((iv (f i)).natAbs:Nat):Int)<=iv x:=λi hi=>by
    rw[iv_abs0 (hm.out.all i hi).1]
    exact iv_mono (hm.out.all i hi).2 hx
   by_cases h0:x=0
   ·have good:TopIs f k (-1074) true:=.inr ⟨rfl,λi hi=>(hm.out.all i hi).1,0,by omega,by omega,λi hi=>by have:=ha i hi;rw[h0,iv_zero] at this;rw[Nat.pow_zero];omega,.inl rfl⟩
    have GOOD:=aZ good
    have z0:(FloatKind.f64.format.order x 0==some Ordering.eq)=true:=by
     rw[ob,Nat.compare_eq_eq.2 h0];rfl
    clear good ob h0 hx ha
    go_wp2_with fail
    go_ret2
    first|exact⟨(-1074,true),rfl,GOOD.out,rfl⟩|exact⟨-1074,.inr ⟨rfl,GOOD.out,rfl⟩⟩
   ·have hp:0<iv x:=by
      have:=iv_grow (r:=0) x (by omega) (by omega)
      rw[iv_zero,Nat.zero_add] at this
      exact this
    obtain⟨K,E,hK,e1,e2,e3,e4,e5⟩:=frexp_top (x:=x) ⟨by omega,by omega⟩ hp
    have good:TopIs f k K true:=.inr ⟨rfl,λi hi=>(hm.out.all i hi).1,E,e1,e5,λi hi=>by have:=ha i hi;omega,.inr (by
     rcases hm.out.is with h|⟨i,hi,h⟩
     ·exact absurd h h0
     ·exact⟨i,hi,by
        have:=iv_abs0 (hm.out.all i hi).1
        rw[h] at this
        omega⟩)⟩
    have GOOD:=aZ good
    have z0:(FloatKind.f64.format.order x 0==some Ordering.eq)=false:=by
     rw[ob,Nat.compare_eq_gt.2 (by omega)];rfl
    have HK:=aZ hK
    clear good ob h0 hx ha hp e1 e2 e3 e4 e5 hK
    go_wp2_with fail
    refine(HK.out _).mono ?_
    rintro z w' ⟨r,rfl,rfl⟩
    go_wp2_with fail
    go_ret2
    exact⟨(K,true),rfl,GOOD.out,rfl⟩
theorem order_bool{x y:Nat}(hx:Fnt x)(hy:Fnt y):(D.order x y==some Ordering.eq)=decide (iv x=iv y)/\(D.order x y==some Ordering.gt)=decide (iv y<iv x):=by
 rw[order_spec hx hy]
 rcases Int.lt_trichotomy (iv x) (iv y) with h|h|h
 ·rw[Int.compare_eq_lt.2 h,decide_eq_false (by omega),decide_eq_false (by omega)];exact⟨rfl,rfl⟩
 ·rw[Int.compare_eq_eq.2 h,decide_eq_true h,decide_eq_false (by omega)];exact⟨rfl,rfl⟩
 ·rw[Int.compare_eq_gt.2 h,decide_eq_false (by omega),decide_eq_true h];exact⟨rfl,rfl⟩
theorem iv_tiny{x:Nat}(h:x<2^52):Fnt x/\iv x=x:=by
 refine⟨⟨by omega,by omega⟩,?_⟩
 rw[iv_low (r:=x) (l:=0) (q:=x) (by omega) (by omega) (by omega)]
 simp
theorem iv_power(e:Nat)(h1:1<=e)(h2:e<=2046):Fnt (e*2^52)/\iv (e*2^52)=((2^(51+e):Nat):Int):=by
 refine⟨⟨by omega,by omega⟩,?_⟩
 have:=@iv_pos e 0 h1 h2 (by omega)
 rw[show e*4503599627370496+0=e*2^52 by omega] at this
 rw[this,show 51+e=52+(e-1) by omega,Nat.pow_add]
 simp
theorem power_sub(K:Int)(w:World)(h1:-1074<=K)(h2:K< -1022):
  Calls Tryz.prog 70 #[.int .i64 K] w λz w'=>∃p,z=.returned (.float .f64 p)/\Fnt p/\iv p=((2^(K+1074).toNat:Nat):Int)/\w=w':=by
 have hfrom:=run_fromF
 obtain⟨j,hj⟩:∃j:Nat,j=(K+1074).toNat:=⟨_,rfl⟩
 have hj52:(2:Nat)^j<2^52:=Nat.pow_lt_pow_right (by omega) (by omega)
 have e:(2:Int)^j=((2^j:Nat):Int):=(Int.natCast_pow _ _).symm
 have hw:(IntKind.u64.wrap (2^j)).toNat=2^j:=by
  have e52:(2:Nat)^52=4503599627370496:=by decide
  rw[e,IntKind.wrap_u64]
  generalize 2^j=q at*
  omega
 have hiv:=iv_tiny hj52
 go_enter Tryz.func70,Tryz.ntmps70
 go_wp2
 go_ret
 rw[<-hj,hw]
 exact⟨_,rfl,hiv.1,hiv.2,rfl⟩
theorem power_norm(K:Int)(w:World)(h1:-1022<=K)(h2:K<=1023):
  Calls Tryz.prog 70 #[.int .i64 K] w λz w'=>∃p,z=.returned (.float .f64 p)/\Fnt p/\iv p=((2^(K+1074).toNat:Nat):Int)/\w=w':=by
 have hfrom:=run_fromF
 obtain⟨e,he⟩:∃e:Nat,(e:Int)=K+1023:=⟨(K+1023).toNat,by omega⟩
 have hiv:=iv_power e (by omega) (by omega)
 have e52:(2:Nat)^52=4503599627370496:=by decide
 have hw:((K+1023)*4503599627370496).toNat=e*2^52:=by rw[<-he,e52];omega
 have hp:(K+1074).toNat=51+e:=by omega
 go_enter Tryz.func70,Tryz.ntmps70
 go_wp2
 go_ret
 have hiv':Fnt (e*4503599627370496)/\iv (e*4503599627370496)=((2^(51+e):Nat):Int):=hiv
 refine⟨_,rfl,?_⟩
 first
 |exact⟨hiv'.1,hiv'.2,rfl⟩
 |(rw[hw,hp];exact⟨hiv.1,hiv.2,rfl⟩)
 |exact⟨hiv'.1,by rw[hiv'.2];simp,rfl⟩
theorem power_any(K:Int)(w:World)(h1:-1074<=K)(h2:K<=1023):
  Calls Tryz.prog 70 #[.int .i64 K] w λz w'=>∃p,z=.returned (.float .f64 p)/\Fnt p/\iv p=((2^(K+1074).toNat:Nat):Int)/\w=w':=by
 by_cases h:K< -1022
 ·exact power_sub K w h1 h
 ·exact power_norm K w (by omega) h2
theorem ge_bool{x p:Nat}(fx:Fnt x)(fp:Fnt p):
  ((D.order x p==some .gt||D.order x p==some .eq)||(D.order (T.fneg x) p==some .gt||D.order (T.fneg x) p==some .eq))=decide (¬((iv x).natAbs:Int)<iv p):=by
 obtain⟨fn,vn⟩:=T.fneg_spec fx
 have o1:=order_bool fx fp
 have o2:=order_bool fn fp
 rw[o1.2,o1.1,o2.2,o2.1,vn]
 by_cases h:((iv x).natAbs:Int)<iv p
 ·have a1:¬iv p<iv x:=by omega
  have a2:¬iv x=iv p:=by omega
  have a3:¬iv p< -iv x:=by omega
  have a4:¬-iv x=iv p:=by omega
  simp[a1,a2,a3,a4,h]
 ·have:(iv p<iv x\/iv x=iv p)\/(iv p< -iv x\/-iv x=iv p):=by omega
  simp only[h,not_false_eq_true,decide_true]
  rcases this with(g|g)|(g|g)<;>simp[g]
theorem refTop_any(A:Option Addr)(n c:Nat)(f:Nat->Nat)(w:World)(hA:FlA w A n f)(hn:n<=1000)(hf:∀i,i<n->f i<18446744073709551616):
  Calls Tryz.prog 37 #[.slice A n c] w λz w'=>∃r:Int×Bool,z=.returned (.tuple #[.int .i64 r.1,.bool r.2])/\TopIs f n r.1 r.2/\w=w':=by
 have HA:=aZ hA
 have HF:=aZ hf
 clear hA hf
 go_enter Tryz.func37,Tryz.ntmps37
 go_wp2
 go_loopw [4,5] (λi b wr=>∃k:Nat,k<=n/\i=.int .i64 k/\Hid (∀j,j<k->Fnt (f j))/\Hid (w=wr)) (λi _ _=>n-(intOf i).toNat)
 case atStart=>exact⟨0,by omega,rfl,aZ (λj hj=>by omega),aZ rfl⟩
 case round=>
  obtain⟨k,hk,rfl,hall,hw⟩:=hrel
  obtain rfl:=hw.out
  by_cases hlt:k<n
  ·obtain⟨b,o,rfl,hc⟩:=HA.out k hlt
   obtain⟨y,hy⟩:∃y,f k=y:=⟨_,rfl⟩
   have hyl:y<18446744073709551616:=by rw[<-hy];exact HF.out k hlt
   rw[hy] at hc
   have HY:=aZ hy
   have c1:=λw=>RFin_any y hyl w
   have HYL:=aZ hyl
   clear hy hyl
   obtain⟨v,hv⟩:∃v,finB y=v:=⟨_,rfl⟩
   rw[hv] at c1
   have C1:=aZ c1
   have HV:=aZ hv
   clear c1 hv
   cases v
   ·have BAD:=aZ (show TopIs f n 0 false from .inl ⟨rfl,rfl,k,hlt,by rw[HY.out];exact HV.out⟩)
    go_wp2_with fail
    refine(C1.out _).mono ?_
    rintro z w' ⟨rfl,rfl⟩
    go_wp2_with fail
    go_ret2
    exact⟨(0,false),rfl,BAD.out,rfl⟩
   ·go_wp2_with fail
    refine(C1.out _).mono ?_
    rintro z w' ⟨rfl,rfl⟩
    go_wp2_with fail
    refine⟨⟨k+1,by omega,by go_num,aZ (λj hj=>?_),aZ trivial⟩,by simp[intOf];omega⟩
    rcases(show j<k\/j=k by omega) with h|rfl
    ·exact hall.out j h
    ·rw[HY.out];exact(fin_low HYL.out).1 HV.out
  ·obtain rfl:k=n:=by omega
   have HALL:=hall
   clear hall HF hw
   go_wp2_with fail
   go_loopw [6,7,8,9] (λK p a i wr=>∃E:Nat,E<=2098/\K=.int .i64 ((E:Int)-1074)/\Hid (E=0\/∃i,i<k/\2^(E-1)<=(iv (f i)).natAbs)/\Hid (w=wr)) (λK _ _ _ _=>(1024-intOf K).toNat)
   case atStart=>exact⟨0,by omega,rfl,aZ (.inl rfl),aZ rfl⟩
   case round=>
    obtain⟨E,hE,rfl,hlow,hw⟩:=hrel
    obtain rfl:=hw.out
    by_cases h98:E<2098
    ·have hK:(E:Int)-1074<1024:=by omega
     have P1:=aZ (λw=>power_any ((E:Int)-1074) w (by omega) (by omega))
     go_wp2_with fail
     refine(P1.out _).mono ?_
     rintro z w' ⟨p,rfl,fp,vp,rfl⟩
     have FP:=aZ fp
     have VP:=aZ vp
     clear fp vp
     go_wp2_with fail
     have VP':Hid (iv p=((2^E:Nat):Int)):=aZ (by rw[VP.out,show((E:Int)-1074+1074).toNat=E by omega])
     clear VP
     go_loopw [8,9] (λa i wr=>∃(j:Nat) (v:Bool),j<=k/\i=.int .i64 j/\a=.bool v/\Hid (v=true↔∀i,i<j->(iv (f i)).natAbs<2^E)/\Hid (w=wr)) (λ_ i _=>k-(intOf i).toNat)
     case atStart=>exact⟨0,true,by omega,rfl,rfl,aZ ⟨λ_ i hi=>by omega,λ_=>rfl⟩,aZ rfl⟩
     case round=>
      obtain⟨j,v,hj,rfl,rfl,hv,hw⟩:=hrel
      obtain rfl:=hw.out
      by_cases hjl:j<k
      ·obtain⟨b,o,rfl,hc⟩:=HA.out j hjl
       have fy:=HALL.out j hjl
       obtain⟨y,hy⟩:∃y,f j=y:=⟨_,rfl⟩
       rw[hy] at hc fy
       have HY:=aZ hy
       have hge:=ge_bool fy FP.out
       rw[VP'.out] at hge
       obtain⟨b1,h1⟩:∃b,(FloatKind.f64.format.order y p==some Ordering.gt||FloatKind.f64.format.order y p==some Ordering.eq)=b:=⟨_,rfl⟩
       obtain⟨b2,h2⟩:∃b,(FloatKind.f64.format.order (T.fneg y) p==some Ordering.gt||FloatKind.f64.format.order (T.fneg y) p==some Ordering.eq)=b:=⟨_,rfl⟩
       have hge2:(b1||b2)=decide (¬((iv y).natAbs:Int)<((2^E:Nat):Int)):=by rw[<-h1,<-h2];exact hge
       have step:∀v',v'=(v&&!(b1||b2))->(v'=true↔∀i,i<j+1->(iv (f i)).natAbs<2^E):=by
        intro v' hv'
        have hlt:(!(b1||b2))=true↔(iv y).natAbs<2^E:=by
         rw[hge2]
         by_cases hP:((iv y).natAbs:Int)<((2^E:Nat):Int)
         ·have e0:decide (¬((iv y).natAbs:Int)<((2^E:Nat):Int))=false:=decide_eq_false (λh=>h hP)
          rw[e0]
          exact⟨λ_=>Int.ofNat_lt.1 hP,λ_=>rfl⟩
         ·have e0:decide (¬((iv y).natAbs:Int)<((2^E:Nat):Int))=true:=decide_eq_true hP
          rw[e0]
          exact⟨λh=>(by cases h),λh=>absurd (Int.ofNat_lt.2 h) hP⟩
        rw[hv',Bool.and_eq_true,hv.out,hlt]
        constructor
        ·rintro⟨g1,g2⟩ i hi
         rcases(show i<j\/i=j by omega) with g|rfl
         ·exact g1 i g
         ·rw[HY.out];exact g2
        ·intro g
         exact⟨λi hi=>g i (by omega),by rw[<-HY.out];exact g j (by omega)⟩
       have STEP:=aZ step
       clear step hge hge2 hy fy hv
       cases b1
       ·cases b2
        ·go_wp2_with (first|simp only[h1,h2]|fail)
         refine⟨⟨j+1,v,by omega,by go_num,rfl,aZ (STEP.out v (by simp)),aZ trivial⟩,by simp[intOf];omega⟩
        ·go_wp2_with (first|simp only[h1,h2]|fail)
         refine⟨⟨j+1,false,by omega,by go_num,rfl,aZ (STEP.out false (by simp)),aZ trivial⟩,by simp[intOf];omega⟩
       ·go_wp2_with (first|simp only[h1,h2]|fail)
        refine⟨⟨j+1,false,by omega,by go_num,rfl,aZ (STEP.out false (by simp)),aZ trivial⟩,by simp[intOf];omega⟩
      ·obtain rfl:j=k:=by omega
       cases v
       ·have hex:∃i,i<j/\2^E<=(iv (f i)).natAbs:=by
          apply Decidable.byContradiction
          intro hc
          have:=hv.out.2 (λi hi=>by
           apply Decidable.byContradiction
           intro h
           exact hc ⟨i,hi,by omega⟩)
          cases this
        have HEX:=aZ hex
        clear hex hv
        go_wp2_with fail
        refine⟨⟨E+1,by omega,by go_num,aZ (.inr ?_),aZ trivial⟩,by simp[intOf];omega⟩
        rw[show E+1-1=E by omega]
        exact HEX.out
       ·have GOOD:=aZ (show TopIs f j ((E:Int)-1074) true from .inr ⟨rfl,HALL.out,E,by omega,by omega,hv.out.1 rfl,hlow.out⟩)
        clear hv
        go_wp2_with fail
        go_ret2
        first
        |exact⟨((E:Int)-1074,true),rfl,GOOD.out,rfl⟩
        |exact⟨(E:Int)-1074,.inr ⟨rfl,GOOD.out,rfl⟩⟩
    ·have hE98:E=2098:=by omega
     have hall:∀i,i<k->(iv (f i)).natAbs<2^E:=by
      intro i hi
      have fx:=HALL.out i hi
      obtain⟨F,hF⟩:∃F,F=2046:=⟨_,rfl⟩
      have h1:=iv_abs0 fx
      have h2:=iv_mono (r:=f i%9223372036854775808) (q:=9218868437227405311) (by have:=fx.2;omega) (by omega)
      have h3:=@iv_pos F 4503599627370495 (by omega) (by omega) (by omega)
      rw[show F*4503599627370496+4503599627370495=9218868437227405311 by omega] at h3
      have h4:((4503599627370496+4503599627370495:Nat):Int)*2^(F-1)<((2^E:Nat):Int):=by
       rw[show E=53+(F-1) by omega,Nat.pow_add,Int.natCast_mul,Int.natCast_pow 2 (F-1)]
       exact Int.mul_lt_mul_of_pos_right (by decide) (pow_pos_int _)
      generalize 2^E=q at*
      omega
     have GOOD:=aZ (show TopIs f k 1024 true from .inr ⟨rfl,HALL.out,E,by omega,by omega,hall,hlow.out⟩)
     have hK:¬(E:Int)-1074<1024:=by omega
     clear hall hlow
     go_wp2_with fail
     go_ret2
     first
     |exact⟨(1024,true),rfl,GOOD.out,rfl⟩
     |exact⟨1024,.inr ⟨rfl,GOOD.out,rfl⟩⟩
end Go.Proofs.YtfedabinindpbaaGreat
