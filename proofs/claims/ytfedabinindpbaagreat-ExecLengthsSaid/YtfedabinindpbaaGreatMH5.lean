/- math.Ldexp of any normal float, where the result is normal. -/
import Derived.Test.YtfedabinindpbaaGreatX0
import Derived.Test.YtfedabinindpbaaGreatMH1
set_option maxRecDepth 100000
set_option maxHeartbeats 2000000
set_option linter.unusedSimpArgs false
set_option linter.unusedVariables false
namespace Go.Proofs.YtfedabinindpbaaGreat
open Go.RowKit Go.Lib Fl
theorem iv_sgn{r:Nat}(h:r<9218868437227405312):iv (9223372036854775808+r)=-iv r:=by
 have:=@iv_word true (r/4503599627370496-1) (r-(r/4503599627370496-1)*4503599627370496) (by omega) (by omega) (by omega)
 have e:D.word true ((r/4503599627370496-1)*2^52+(r-(r/4503599627370496-1)*4503599627370496))=9223372036854775808+r:=by
  unfold Ieee.Format.word
  rw[D_sign]
  simp only[if_true]
  omega
 rw[e] at this
 rw[this,iv_low h rfl rfl]
 simp only[if_true]
 rw[Int.mul_assoc,Int.neg_mul,Int.one_mul]
theorem iv_nn{r:Nat}(h:r<9218868437227405312):0<=iv r:=by
 rw[iv_low h rfl rfl]
 exact Int.mul_nonneg (by omega) (Int.le_of_lt (Int.pow_pos (by decide)))
theorem fnt_eq_neg{z b:Nat}(hz:Fnt z)(hb:b<9218868437227405312)(h:iv z=-iv b)(h0:0<iv b):z=9223372036854775808+b:=by
 obtain⟨h1,h2⟩:=hz
 by_cases hs:z<9223372036854775808
 ·have:=iv_nn (r:=z) (by omega)
  omega
 ·have:=iv_sgn (r:=z-9223372036854775808) (by omega)
  rw[show 9223372036854775808+(z-9223372036854775808)=z by omega] at this
  have:=iv_inj (r:=z-9223372036854775808) (s:=b) (by omega) hb (by omega)
  omega
theorem fnt_neg{E m:Nat}(h2:E<=2046)(hm:m<4503599627370496):Fnt (9223372036854775808+(E*4503599627370496+m)):=⟨by omega,by omega⟩
theorem ord_eq0n{E m:Nat}(h1:1<=E)(h2:E<=2046)(hm:m<4503599627370496):(FloatKind.f64.format.order (9223372036854775808+(E*4503599627370496+m)) 0==some Ordering.eq)=false:=by
 show(D.order _ 0==some Ordering.eq)=false
 rw[order_spec (fnt_neg h2 hm) (by decide),iv_zero,iv_sgn (by omega)]
 have:=iv_pos_gt h1 h2 hm
 have e:compare (-iv (E*4503599627370496+m)) 0=.lt:=by rw[Int.compare_eq_lt];omega
 rw[e]
 rfl
theorem mul_one_neg{E m:Nat}(h1:1<=E)(h2':E<=2045)(hm:m<4503599627370496):fmul 4607182418800017408 (9223372036854775808+(E*4503599627370496+m))=some (9223372036854775808+(E*4503599627370496+m)):=by
 have h2:E<=2046:=by omega
 have hf:=fnt_neg h2 hm
 have e1:iv 4607182418800017408=2^U:=by
  have:=@iv_pos 1023 0 (by omega) (by omega) (by omega)
  rw[show 1023*4503599627370496+0=4607182418800017408 from rfl] at this
  rw[this,U_eq,show(1074:Nat)=52+(1023-1) from rfl,Int.pow_add]
  rfl
 have hs:=iv_sgn (r:=E*4503599627370496+m) (by omega)
 have hb:(iv (9223372036854775808+(E*4503599627370496+m))).natAbs<2^Bt:=by
  rw[hs,Int.natAbs_neg,iv_pos h1 h2 hm,Int.natAbs_mul,Int.natAbs_natCast,Int.natAbs_pow]
  have a:4503599627370496+m<2^53:=by omega
  have c:(2:Int).natAbs^(E-1)<=2^(Bt-53):=Nat.pow_le_pow_right (by decide) (by have:=Bt_eq;omega)
  have d:2^53*2^(Bt-53)=2^Bt:=by rw[<-Nat.pow_add];congr 1;have:=Bt_eq;omega
  rw[<-d]
  exact Nat.mul_lt_mul_of_lt_of_le a c (Nat.two_pow_pos _)
 obtain⟨z,z1,z2,z3⟩:=fmul_whole (x:=4607182418800017408) (p:=iv (9223372036854775808+(E*4503599627370496+m))) (by decide) hf (by rw[e1,Int.mul_comm]) hb
 rw[(rep_iv hf).rnd_eq,hs] at z3
 rw[z1,fnt_eq_neg z2 (by omega) z3 (iv_pos_gt h1 h2 hm)]
theorem cut_neg(x:Nat)(h:x<9223372036854775808):(9223372036854775808+x) &&& 9227875636482146303=9223372036854775808+x%4503599627370496:=by
 have e1:9223372036854775808+x=1 <<< 63 ||| x:=by rw[<-Nat.shiftLeft_add_eq_or_of_lt (i:=63) h 1];rfl
 have e2:(9227875636482146303:Nat)=1 <<< 63 ||| 4503599627370495:=by decide
 have e3:9223372036854775808+x%4503599627370496=1 <<< 63 ||| x%4503599627370496:=by rw[<-Nat.shiftLeft_add_eq_or_of_lt (i:=63) (show x%4503599627370496<2^63 by omega) 1];rfl
 rw[e1,e2,e3]
 have e4:x &&& 4503599627370495=x%4503599627370496:=by rw[show(4503599627370495:Nat)=2^52-1 from rfl,Nat.and_two_pow_sub_one_eq_mod]
 apply Nat.eq_of_testBit_eq
 intro i
 rw[Nat.testBit_and,Nat.testBit_or,Nat.testBit_or,Nat.testBit_or,<-e4,Nat.testBit_and]
 by_cases hi:i=63
 ·subst hi
  have:Nat.testBit (1 <<< 63) 63=true:=by decide
  rw[this]
  rfl
 ·have:Nat.testBit (1 <<< 63) i=false:=by
    rw[show(1 <<< 63:Nat)=2^63 from rfl,Nat.testBit_two_pow]
    simp;omega
  rw[this]
  simp
theorem andNotN(x:Nat)(h:x<9223372036854775808):bits .andNot .u64 ((9223372036854775808+x:Nat):Int) 9218868437227405312=((9223372036854775808+x%4503599627370496:Nat):Int):=by
 have:=u64_andNot_nat (9223372036854775808+x) 9218868437227405312 (by omega) (by omega)
 rw[show((9218868437227405312:Nat):Int)=9218868437227405312 from rfl] at this
 rw[this,show(18446744073709551615-9218868437227405312:Nat)=9227875636482146303 from rfl,cut_neg x h]
theorem orN(m e:Nat)(h:m<4503599627370496)(he:e<2048):bits .or .u64 ((9223372036854775808+m:Nat):Int) ((e*4503599627370496:Nat):Int)=((9223372036854775808+(e*4503599627370496+m):Nat):Int):=by
 rw[u64_or_nat (9223372036854775808+m) (e*4503599627370496) (by omega) (by omega)]
 congr 1
 have e1:9223372036854775808+m=1 <<< 63 ||| m:=by rw[<-Nat.shiftLeft_add_eq_or_of_lt (i:=63) (show m<2^63 by omega) 1];rfl
 have e3:9223372036854775808+(e*4503599627370496+m)=1 <<< 63 ||| (e*4503599627370496+m):=by rw[<-Nat.shiftLeft_add_eq_or_of_lt (i:=63) (show e*4503599627370496+m<2^63 by omega) 1];rfl
 have e2:e*4503599627370496+m=m ||| e*4503599627370496:=by
  rw[Nat.or_comm,show e*4503599627370496=e <<< 52 from by rw[Nat.shiftLeft_eq]]
  exact Nat.shiftLeft_add_eq_or_of_lt h e
 rw[e1,e3,e2,Nat.or_assoc]
theorem and2047J(e:Nat)(h:e<2048):bits .and .i64 ((2048+e:Nat):Int) 2047=(e:Int):=by
 have:∀j:Fin 2048,bits .and .i64 ((2048+j.1:Nat):Int) 2047=((j.1:Nat):Int):=by decide+kernel
 exact this ⟨e,h⟩
theorem ldexp_neg(E m:Nat)(k:Int)(w:World)(h1:1<=E)(h2:E<=2046)(hm:m<4503599627370496)(k1:1<=(E:Int)+k)(k2:(E:Int)+k<=2045):
  Calls Tryz.prog 96 #[.float .f64 (9223372036854775808+(E*4503599627370496+m):Nat),.int .i64 k] w λz w'=>z=.returned (.float .f64 (9223372036854775808+(((E:Int)+k).toNat*4503599627370496+m):Nat))/\w=w':=by
 have hbits:=run_bitsF
 have hfrom:=run_fromF
 obtain⟨F,hF⟩:∃F:Nat,(E:Int)+k=F:=⟨((E:Int)+k).toNat,by omega⟩
 have hF1:1<=F:=by omega
 have hF2:F<=2045:=by omega
 rw[hF,Int.toNat_natCast]
 have hx:E*4503599627370496+m<9223372036854775808:=by omega
 have hmo:(9223372036854775808+(E*4503599627370496+m))%9223372036854775808=E*4503599627370496+m:=by omega
 have c0:=ord_eq0n h1 h2 hm
 have C1:=aZ (λw=>isnanF_any (9223372036854775808+(E*4503599627370496+m)) _ w (ord_self (fnt_neg h2 hm)))
 have C2:=aZ (λw=>isinfF_any (9223372036854775808+(E*4503599627370496+m)) false w (by omega) (by rw[hmo];exact ord_max h1 h2 hm))
 have C3:=aZ (λw=>normF_any (9223372036854775808+(E*4503599627370496+m)) w (by omega) (by rw[hmo];exact ord_min h1 h2 hm))
 have a2:=andNotN (E*4503599627370496+m) hx
 have e2:(E*4503599627370496+m)%4503599627370496=m:=by omega
 rw[e2] at a2
 have a3:=orN m F hm (by omega)
 have hmm:=hmulF (mul_one_neg hF1 hF2 hm)
 obtain⟨x,hxx⟩:∃x,9223372036854775808+(E*4503599627370496+m)=x:=⟨_,rfl⟩
 rw[hxx] at c0 C1 C2 C3 a2|-
 obtain⟨sm,hsm⟩:∃sm:Int,((9223372036854775808+m:Nat):Int)=sm:=⟨_,rfl⟩
 rw[hsm] at a2 a3
 obtain⟨k1',hk1'⟩:∃k1',wrap64 k=k1':=⟨_,rfl⟩
 have hkk:k1'=k:=by rw[<-hk1'];unfold wrap64;omega
 obtain⟨q1,hq1⟩:∃q1,(x:Int)/4503599627370496=q1:=⟨_,rfl⟩
 have hqq:q1=((2048+E:Nat):Int):=by rw[<-hq1,<-hxx];omega
 obtain⟨q2,hq2⟩:∃q2,wrap64 q1=q2:=⟨_,rfl⟩
 have hqq2:q2=((2048+E:Nat):Int):=by rw[<-hq2,hqq];unfold wrap64;omega
 obtain⟨q3,hq3⟩:∃q3,bits .and .i64 q2 2047=q3:=⟨_,rfl⟩
 have hqq3:q3=E:=by rw[<-hq3,hqq2];exact and2047J E (by omega)
 obtain⟨q4,hq4⟩:∃q4,wrap64 (q3-1023)=q4:=⟨_,rfl⟩
 have hqq4:q4=(E:Int)-1023:=by rw[<-hq4,hqq3];unfold wrap64;omega
 obtain⟨g,hg⟩:∃g,wrap64 (k1'+q4)=g:=⟨_,rfl⟩
 have hgg:g=(F:Int)-1023:=by rw[<-hg,hkk,hqq4];unfold wrap64;omega
 have g1:¬g< -1075:=by omega
 have g2:¬g>1023:=by omega
 have g3:¬g< -1022:=by omega
 have hor:bits .or .u64 sm ((g+1023)*4503599627370496)=((9223372036854775808+(F*4503599627370496+m):Nat):Int):=by rw[<-a3];congr 1;omega
 have ht:((9223372036854775808+(F*4503599627370496+m):Nat):Int).toNat=9223372036854775808+(F*4503599627370496+m):=Int.toNat_natCast _
 obtain⟨R,hR⟩:∃R,9223372036854775808+(F*4503599627370496+m)=R:=⟨_,rfl⟩
 rw[hR] at hmm hor ht|-
 clear e2 hF hxx k1 k2 hkk hqq hqq2 hqq3 hqq4 hgg a3 hR hsm
 go_enter Tryz.func96,Tryz.ntmps96
 go_wp2_with fail
 refine(C2.out _).mono ?_
 rintro z w' ⟨rfl,rfl⟩
 go_wp2_with fail
 refine(C1.out _).mono ?_
 rintro z w' ⟨rfl,rfl⟩
 go_wp2_with fail
 refine(C3.out _).mono ?_
 rintro z w' ⟨rfl,rfl⟩
 go_wp2_with (first|simp only[hmm]|fail)
 go_ret
 exact⟨rfl,rfl⟩
theorem whole_neg(m:Int)(h0:m<0)(h1:-9007199254740992<=m){S:Int}(hS:S=((2^U:Nat):Int)):Fnt (T.wholeF m)/\iv (T.wholeF m)=m*S:=by
 have hU:=U_eq
 have hBt:=Bt_eq
 have e:T.wholeF m=D.nearest (decide (m<0)) m.natAbs 0:=rfl
 have hneg:decide (m<0)=true:=decide_eq_true (by omega)
 rw[hneg] at e
 have hlt:m.natAbs*2^U<2^(Bt+0):=by
  have e54:(2:Nat)^54=18014398509481984:=by decide
  have h9:m.natAbs*2^U<2^54*2^U:=Nat.mul_lt_mul_of_pos_right (by omega) (Nat.two_pow_pos U)
  rw[<-Nat.pow_add] at h9
  exact Nat.lt_of_lt_of_le h9 (Nat.pow_le_pow_right (by decide) (by omega))
 obtain⟨f,v⟩:=nearest_spec true m.natAbs 0 0 (m.natAbs*2^U) (by omega) (by rw[show((0:Int)+1074+((0:Nat):Int)).toNat=U by omega]) hlt
 rw[<-e] at f v
 refine⟨f,?_⟩
 rw[v,rns_zero]
 have hr:rnd (m*2^U)=m*2^U:=by rw[rnd_scale,(rep_small (n:=m) (by have:(2:Int)^53=9007199254740992:=by decide
                                                                  omega) (by have:(2:Int)^53=9007199254740992:=by decide
                                                                             omega)).rnd_eq]
 have hp:=pow_pos_int U
 have hmn:m*2^U<0:=by have:=Int.mul_lt_mul_of_pos_right h0 hp;omega
 unfold rnd at hr
 rw[if_pos hmn,Int.natAbs_mul,Int.natAbs_pow] at hr
 have e2:(2:Int)^U=S:=by rw[hS];exact(Int.natCast_pow _ _).symm
 rw[e2] at hr
 simpa using hr
theorem whole_word53(c:Int)(h1:1<=c)(h2:c<=9007199254740992):∃E m:Nat,floatOfInt .f64 c=E*4503599627370496+m/\m<4503599627370496/\1023<=E/\E<=1076:=by
 obtain⟨f,v⟩:=T.whole_spec c (by omega) (by omega) rfl
 have hS:(0:Int)<((2^U:Nat):Int):=by have:=Nat.two_pow_pos U;omega
 obtain⟨S,hSe⟩:∃S:Int,((2^U:Nat):Int)=S:=⟨_,rfl⟩
 rw[hSe] at v hS
 have w1:iv 4607182418800017408=S:=by
  have:=T.whole_spec 1 (by decide) (by decide) rfl
  rw[hSe,Int.one_mul] at this
  exact(congrArg iv (show(4607182418800017408:Nat)=floatOfInt .f64 1 by decide+kernel)).trans this.2
 have w2:iv 4845873199050653696=9007199254740992*S:=by
  have:=T.whole_spec 9007199254740992 (by decide) (by decide) rfl
  rw[hSe] at this
  exact(congrArg iv (show(4845873199050653696:Nat)=floatOfInt .f64 9007199254740992 by decide+kernel)).trans this.2
 show ∃E m:Nat,T.wholeF c=_/\_
 obtain⟨b,hb⟩:∃b,T.wholeF c=b:=⟨_,rfl⟩
 rw[hb] at f v|-
 obtain⟨f1,f2⟩:=f
 have p1:S<=c*S:=by have:=Int.mul_le_mul_of_nonneg_right h1 (Int.le_of_lt hS);rwa [Int.one_mul] at this
 have p2:c*S<=9007199254740992*S:=Int.mul_le_mul_of_nonneg_right h2 (Int.le_of_lt hS)
 rw[<-v] at p1 p2
 have hb3:b<9223372036854775808:=by
  rcases Nat.lt_or_ge b 9223372036854775808 with h|h
  ·exact h
  ·have:=iv_negw (r:=b-9223372036854775808) (by omega)
   rw[show 9223372036854775808+(b-9223372036854775808)=b by omega] at this
   omega
 have hlo:4607182418800017408<=b:=by
  rcases Nat.lt_or_ge b 4607182418800017408 with h|h
  ·have:=iv_grow (r:=b) (4607182418800017408-b) (by omega) (by omega)
   rw[show b+(4607182418800017408-b)=4607182418800017408 by omega,w1] at this
   omega
  ·exact h
 have hhi:b<=4845873199050653696:=by
  rcases Nat.lt_or_ge 4845873199050653696 b with h|h
  ·have:=iv_grow (r:=4845873199050653696) (b-4845873199050653696) (by omega) (by omega)
   rw[show 4845873199050653696+(b-4845873199050653696)=b by omega,w2] at this
   omega
  ·exact h
 exact⟨b/4503599627370496,b%4503599627370496,by omega,Nat.mod_lt _ (by decide),by omega,by omega⟩
theorem whole_word_neg(c:Int)(h1:1<=c)(h2:c<=9007199254740992):floatOfInt .f64 (-c)=9223372036854775808+floatOfInt .f64 c:=by
 show T.wholeF (-c)=9223372036854775808+T.wholeF c
 obtain⟨f,v⟩:=T.whole_spec c (by omega) (by omega) rfl
 obtain⟨f',v'⟩:=whole_neg (-c) (by omega) (by omega) rfl
 obtain⟨E,m,e,hm,h3,h4⟩:=whole_word53 c h1 h2
 have e':T.wholeF c=E*4503599627370496+m:=e
 refine fnt_eq_neg f' (by rw[e'];omega) (by rw[v',v,Int.neg_mul]) ?_
 rw[e']
 exact iv_pos_gt (by omega) (by omega) hm
def vW(c k:Int):Nat:=if c=0 then 0 else((floatOfInt .f64 c:Int)+k*4503599627370496).toNat
theorem Ldexp_whole(c k:Int)(h0:-9007199254740992<=c)(h2:c<=9007199254740992)(k0:-1000<=k)(k2:k<=900)(w:World):Calls Tryz.prog 61 #[.float .f64 (floatOfInt .f64 c),.int .i64 k] w λz w'=>z=.returned (.float .f64 (vW c k))/\w=w':=by
 by_cases hc:c=0
 ·subst hc
  exact Ldexp_of _ _ _ _ (λw=>ldexp_zero k w)
 ·by_cases hn:0<c
  ·obtain⟨E,m,e,hm,h3,h4⟩:=whole_word53 c (by omega) h2
   have hb:vW c k=((E:Int)+k).toNat*4503599627370496+m:=by unfold vW;rw[if_neg hc,e];omega
   rw[hb,e]
   exact Ldexp_of _ _ _ _ (λw=>ldexp_pos E m k w (by omega) (by omega) hm (by omega) (by omega))
  ·obtain⟨E,m,e,hm,h3,h4⟩:=whole_word53 (-c) (by omega) (by omega)
   have e2:=whole_word_neg (-c) (by omega) (by omega)
   rw[Int.neg_neg,e] at e2
   have hb:vW c k=9223372036854775808+(((E:Int)+k).toNat*4503599627370496+m):=by unfold vW;rw[if_neg hc,e2];omega
   rw[hb,e2]
   exact Ldexp_of _ _ _ _ (λw=>ldexp_neg E m k w (by omega) (by omega) hm (by omega) (by omega))
theorem fits_lo{b:Nat}(h:b<18446744073709551616)(h2:b%9223372036854775808<8660422083433463808):fitsB 8660422083433463808 b=true:=by
 unfold fitsB
 have hf:Fnt (b%9223372036854775808):=⟨by omega,by omega⟩
 have hg:iv (b%9223372036854775808)<iv 8660422083433463808:=by
  have:=iv_grow (r:=b%9223372036854775808) (8660422083433463808-b%9223372036854775808) (by omega) (by omega)
  rwa [show b%9223372036854775808+(8660422083433463808-b%9223372036854775808)=8660422083433463808 by omega] at this
 have:Ieee.double.order (b%9223372036854775808) 8660422083433463808=some .lt:=by
  show D.order _ _=_
  rw[order_spec hf (by decide),Int.compare_eq_lt.2 hg]
 rw[this]
 rfl
theorem vW_fits(c k:Int)(h0:-9007199254740992<c)(h2:c<9007199254740992)(k0:-1000<=k)(k2:k<=840):fitsB W900 (vW c k)=true/\vW c k<2^64:=by
 have hp:(2:Nat)^64=18446744073709551616:=by decide
 have key:vW c k<18446744073709551616/\vW c k%9223372036854775808<8660422083433463808:=by
  by_cases hc:c=0
  ·subst hc
   have e:vW 0 k=0:=rfl
   rw[e]
   exact⟨by decide,by decide⟩
  ·by_cases hn:0<c
   ·obtain⟨E,m,e,hm,h3,h4⟩:=whole_word53 c (by omega) (by omega)
    have hb:vW c k=((E:Int)+k).toNat*4503599627370496+m:=by unfold vW;rw[if_neg hc,e];omega
    omega
   ·obtain⟨E,m,e,hm,h3,h4⟩:=whole_word53 (-c) (by omega) (by omega)
    have e2:=whole_word_neg (-c) (by omega) (by omega)
    rw[Int.neg_neg,e] at e2
    have hb:vW c k=9223372036854775808+(((E:Int)+k).toNat*4503599627370496+m):=by unfold vW;rw[if_neg hc,e2];omega
    omega
 exact⟨fits_lo key.1 key.2,by omega⟩
@[go_sem] theorem run_max_int13{P:Program}(w:World)(ts:Array TypeId)(t:TypeId)(x y:Int):
  (Builtin.max_ ts t #[.int .i64 x,.int .i64 y]).run P w=.ok (.int .i64 (max x y)) w:=by
 show([Value.int .i64 y].foldlM Builtin.max2 (.int .i64 x)).run P w=_
 simp[List.foldlM,Builtin.max2]
 omega
@[go_sem] theorem run_min_int13{P:Program}(w:World)(ts:Array TypeId)(t:TypeId)(x y:Int):
  (Builtin.min_ ts t #[.int .i64 x,.int .i64 y]).run P w=.ok (.int .i64 (min x y)) w:=by
 show([Value.int .i64 y].foldlM Builtin.min2 (.int .i64 x)).run P w=_
 simp[List.foldlM,Builtin.min2]
 omega
theorem Scale_whole(c k:Int)(h0:-9007199254740992<=c)(h2:c<=9007199254740992)(k0:-1000<=k)(k2:k<=900)(w:World):Calls Tryz.prog 31 #[.float .f64 (floatOfInt .f64 c),.int .i64 k] w λz w'=>z=.returned (.float .f64 (vW c k))/\w=w':=by
 have H:=aZ (λw=>Ldexp_whole c k h0 h2 k0 k2 w)
 obtain⟨x,hx⟩:∃x,floatOfInt .f64 c=x:=⟨_,rfl⟩
 obtain⟨y,hy⟩:∃y,vW c k=y:=⟨_,rfl⟩
 have e1:min k 3000=k:=by omega
 have e2:max (-3000) k=k:=by omega
 rw[hx,hy] at H
 rw[hx,hy]
 clear hx hy
 go_enter Tryz.func31,Tryz.ntmps31
 go_wp2_with (first|simp only[e1,e2]|fail)
 refine(H.out _).mono ?_
 rintro z w' ⟨rfl,rfl⟩
 go_wp2
 go_ret
 exact⟨rfl,rfl⟩
def vN(M E:Int):Nat:=vW (M.tmod 9007199254740992) (E.tmod 900-60)
theorem tmod_rng(x:Int)(m:Int)(hm:0<m):-m<x.tmod m/\x.tmod m<m:=by
 have h1:=Int.lt_tmod_of_pos x hm
 have h2:=Int.tmod_lt_of_pos x hm
 omega
theorem vN_fits(M E:Int):fitsB W900 (vN M E)=true/\vN M E<2^64:=by
 have h1:=tmod_rng M 9007199254740992 (by decide)
 have h2:=tmod_rng E 900 (by decide)
 exact vW_fits _ _ (by omega) (by omega) (by omega) (by omega)
theorem value20(M E:Int)(w:World):Calls Tryz.prog 42 #[.agg #[.int .i64 M,.int .i64 E]] w λz w'=>z=.returned (.float .f64 (vN M E))/\Below w.heap.size w w':=by
 have h1:=tmod_rng M 9007199254740992 (by decide)
 have h2:=tmod_rng E 900 (by decide)
 obtain⟨c,hc⟩:∃c,M.tmod 9007199254740992=c:=⟨_,rfl⟩
 obtain⟨k,hk⟩:∃k,E.tmod 900=k:=⟨_,rfl⟩
 have H:=aZ (λw=>Scale_whole c (k-60) (by omega) (by omega) (by omega) (by omega) w)
 have e1:wrap64 (k-60)=k-60:=by unfold wrap64;omega
 obtain⟨y,hy⟩:∃y,vW c (k-60)=y:=⟨_,rfl⟩
 have hv:vN M E=y:=by unfold vN;rw[hc,hk,hy]
 rw[hy] at H
 rw[hv]
 clear hy hv h1 h2
 obtain⟨W,hW⟩:∃W,W=w.alloc (.cells #[.int .i64 M,.int .i64 E] 85):=⟨_,rfl⟩
 have hb:Below w.heap.size w W:=by rw[hW];exact(Below.refl _ w).alloc (Nat.le_refl _) _
 go_enter Tryz.func42,Tryz.ntmps42
 go_wp2_with (first|simp only[hc,hk,e1]|fail)
 refine(H.out _).mono ?_
 rintro z w' ⟨rfl,rfl⟩
 go_wp2
 go_ret
 exact⟨rfl,by rw[<-hW];exact hb⟩
end Go.Proofs.YtfedabinindpbaaGreat
