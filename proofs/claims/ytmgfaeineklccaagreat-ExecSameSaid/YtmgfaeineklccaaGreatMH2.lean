/- math.Ldexp of any normal float, where the result is normal. -/
import Derived.Test.YtmgfaeineklccaaGreatMH1
import Derived.Test.YtmgfaeineklccaaGreatMQ1
import Derived.Test.YtmgfaeineklccaaGreatMA5
import Derived.Test.YtmgfaeineklccaaGreatMQ4
import Derived.Test.YtmgfaeineklccaaGreatMV2
import Derived.Test.YtmgfaeineklccaaGreatMF1
import Derived.Laws.StructEq
import Derived.KernelRfl
import Derived.Deep.Slices
set_option maxRecDepth 100000
set_option maxHeartbeats 2000000
set_option linter.unusedSimpArgs false
set_option linter.unusedVariables false
namespace Go.Proofs.YtmgfaeineklccaaGreat
open Go.RowKit Go.Lib Fl
theorem iv_sgn {r:Nat} (h:r<9218868437227405312):iv (9223372036854775808+r)=-iv r:=by
 have:=@iv_word true (r/4503599627370496-1) (r-(r/4503599627370496-1)*4503599627370496) (by omega) (by omega) (by omega)
 have e:D.word true ((r/4503599627370496-1)*2^52+(r-(r/4503599627370496-1)*4503599627370496))=9223372036854775808+r:=by
  unfold Ieee.Format.word
  rw[D_sign]
  simp only[if_true]
  omega
 rw[e] at this
 rw[this,iv_low h rfl rfl]
 simp only[if_true]
 rw[Int.mul_assoc,Int.neg_mul,Int.one_mul]
theorem iv_nn {r:Nat} (h:r<9218868437227405312):0<=iv r:=by
 rw[iv_low h rfl rfl]
 exact Int.mul_nonneg (by omega) (Int.le_of_lt (Int.pow_pos (by decide)))
theorem fnt_eq_neg {z b:Nat} (hz:Fnt z) (hb:b<9218868437227405312) (h:iv z=-iv b) (h0:0<iv b):z=9223372036854775808+b:=by
 obtain⟨h1,h2⟩:=hz
 by_cases hs:z<9223372036854775808
 ·have:=iv_nn (r:=z) (by omega)
  omega
 ·have:=iv_sgn (r:=z-9223372036854775808) (by omega)
  rw[show 9223372036854775808+(z-9223372036854775808)=z by omega] at this
  have:=iv_inj (r:=z-9223372036854775808) (s:=b) (by omega) hb (by omega)
  omega
theorem fnt_neg {E m:Nat} (h2:E<=2046) (hm:m<4503599627370496):Fnt (9223372036854775808+(E*4503599627370496+m)):=⟨by omega,by omega⟩
theorem ord_eq0n {E m:Nat} (h1:1<=E) (h2:E<=2046) (hm:m<4503599627370496):(FloatKind.f64.format.order (9223372036854775808+(E*4503599627370496+m)) 0==some Ordering.eq)=false:=by
 show(D.order _ 0==some Ordering.eq)=false
 rw[order_spec (fnt_neg h2 hm) (by decide),iv_zero,iv_sgn (by omega)]
 have:=iv_pos_gt h1 h2 hm
 have e:compare (-iv (E*4503599627370496+m)) 0=.lt:=by rw[Int.compare_eq_lt];omega
 rw[e]
 rfl
theorem mul_one_neg {E m:Nat} (h1:1<=E) (h2':E<=2045) (hm:m<4503599627370496):fmul 4607182418800017408 (9223372036854775808+(E*4503599627370496+m))=some (9223372036854775808+(E*4503599627370496+m)):=by
 have h2:E<=2046:=by omega
 have hf:=fnt_neg h2 hm
 have e1:iv 4607182418800017408=2^U:=by
  have:=@iv_pos 1023 0 (by omega) (by omega) (by omega)
  rw[show 1023*4503599627370496+0=4607182418800017408 from rfl] at this
  rw[this,U_eq,show(1074:Nat)=52+(1023-1) from rfl,Int.pow_add]
  rfl
 have hs:=iv_sgn (r:=E*4503599627370496+m) (by omega)
 have hb:(iv (9223372036854775808+(E*4503599627370496+m))).natAbs<2^Bt:=by
  rw[hs,Int.natAbs_neg,iv_pos h1 h2 hm,Int.natAbs_mul,Int.natAbs_natCast,Int.natAbs_pow]
  have a:4503599627370496+m<2^53:=by omega
  have c:(2:Int).natAbs^(E-1)<=2^(Bt-53):=Nat.pow_le_pow_right (by decide) (by have:=Bt_eq;omega)
  have d:2^53*2^(Bt-53)=2^Bt:=by rw[<-Nat.pow_add];congr 1;have:=Bt_eq;omega
  rw[<-d]
  exact Nat.mul_lt_mul_of_lt_of_le a c (Nat.two_pow_pos _)
 obtain⟨z,z1,z2,z3⟩:=fmul_whole (x:=4607182418800017408) (p:=iv (9223372036854775808+(E*4503599627370496+m))) (by decide) hf (by rw[e1,Int.mul_comm]) hb
 rw[(rep_iv hf).rnd_eq,hs] at z3
 rw[z1,fnt_eq_neg z2 (by omega) z3 (iv_pos_gt h1 h2 hm)]
theorem cut_neg (x:Nat) (h:x<9223372036854775808):(9223372036854775808+x) &&& 9227875636482146303=9223372036854775808+x%4503599627370496:=by
 have e1:9223372036854775808+x=1 <<< 63 ||| x:=by rw[<-Nat.shiftLeft_add_eq_or_of_lt (i:=63) h 1];rfl
 have e2:(9227875636482146303:Nat)=1 <<< 63 ||| 4503599627370495:=by decide
 have e3:9223372036854775808+x%4503599627370496=1 <<< 63 ||| x%4503599627370496:=by rw[<-Nat.shiftLeft_add_eq_or_of_lt (i:=63) (show x%4503599627370496<2^63 by omega) 1];rfl
 rw[e1,e2,e3]
 have e4:x &&& 4503599627370495=x%4503599627370496:=by rw[show(4503599627370495:Nat)=2^52-1 from rfl,Nat.and_two_pow_sub_one_eq_mod]
 apply Nat.eq_of_testBit_eq
 intro i
 rw[Nat.testBit_and,Nat.testBit_or,Nat.testBit_or,Nat.testBit_or,<-e4,Nat.testBit_and]
 by_cases hi:i=63
 ·subst hi
  have:Nat.testBit (1 <<< 63) 63=true:=by decide
  rw[this]
  rfl
 ·have:Nat.testBit (1 <<< 63) i=false:=by
    rw[show(1 <<< 63:Nat)=2^63 from rfl,Nat.testBit_two_pow]
    simp;omega
  rw[this]
  simp
theorem andNotN (x:Nat) (h:x<9223372036854775808):bits .andNot .u64 ((9223372036854775808+x:Nat):Int) 9218868437227405312=((9223372036854775808+x%4503599627370496:Nat):Int):=by
 have:=u64_andNot_nat (9223372036854775808+x) 9218868437227405312 (by omega) (by omega)
 rw[show((9218868437227405312:Nat):Int)=9218868437227405312 from rfl] at this
 rw[this,show(18446744073709551615-9218868437227405312:Nat)=9227875636482146303 from rfl,cut_neg x h]
theorem orN (m e:Nat) (h:m<4503599627370496) (he:e<2048):bits .or .u64 ((9223372036854775808+m:Nat):Int) ((e*4503599627370496:Nat):Int)=((9223372036854775808+(e*4503599627370496+m):Nat):Int):=by
 rw[u64_or_nat (9223372036854775808+m) (e*4503599627370496) (by omega) (by omega)]
 congr 1
 have e1:9223372036854775808+m=1 <<< 63 ||| m:=by rw[<-Nat.shiftLeft_add_eq_or_of_lt (i:=63) (show m<2^63 by omega) 1];rfl
 have e3:9223372036854775808+(e*4503599627370496+m)=1 <<< 63 ||| (e*4503599627370496+m):=by rw[<-Nat.shiftLeft_add_eq_or_of_lt (i:=63) (show e*4503599627370496+m<2^63 by omega) 1];rfl
 have e2:e*4503599627370496+m=m ||| e*4503599627370496:=by
  rw[Nat.or_comm,show e*4503599627370496=e <<< 52 from by rw[Nat.shiftLeft_eq]]
  exact Nat.shiftLeft_add_eq_or_of_lt h e
 rw[e1,e3,e2,Nat.or_assoc]
theorem and2047J (e:Nat) (h:e<2048):bits .and .i64 ((2048+e:Nat):Int) 2047=(e:Int):=by
 have:∀j:Fin 2048,bits .and .i64 ((2048+j.1:Nat):Int) 2047=((j.1:Nat):Int):=by decide+kernel
 exact this ⟨e,h⟩
theorem ldexp_neg (E m:Nat) (k:Int) (w:World) (h1:1<=E) (h2:E<=2046) (hm:m<4503599627370496) (k1:1<=(E:Int)+k) (k2:(E:Int)+k<=2045):
  Calls Tryz.prog 151 #[.float .f64 (9223372036854775808+(E*4503599627370496+m):Nat),.int .i64 k] w fun z w'=>z=.returned (.float .f64 (9223372036854775808+(((E:Int)+k).toNat*4503599627370496+m):Nat))/\w=w':=by
 have hbits:=run_bitsF
 have hfrom:=run_fromF
 obtain⟨F,hF⟩:∃F:Nat,(E:Int)+k=F:=⟨((E:Int)+k).toNat,by omega⟩
 have hF1:1<=F:=by omega
 have hF2:F<=2045:=by omega
 rw[hF,Int.toNat_natCast]
 have hx:E*4503599627370496+m<9223372036854775808:=by omega
 have hmo:(9223372036854775808+(E*4503599627370496+m))%9223372036854775808=E*4503599627370496+m:=by omega
 have c0:=ord_eq0n h1 h2 hm
 have C1:=Lib.hid (fun w=>isnanF_any (9223372036854775808+(E*4503599627370496+m)) _ w (ord_self (fnt_neg h2 hm)))
 have C2:=Lib.hid (fun w=>isinfF_any (9223372036854775808+(E*4503599627370496+m)) false w (by omega) (by rw[hmo];exact ord_max h1 h2 hm))
 have C3:=Lib.hid (fun w=>normF_any (9223372036854775808+(E*4503599627370496+m)) w (by omega) (by rw[hmo];exact ord_min h1 h2 hm))
 have a2:=andNotN (E*4503599627370496+m) hx
 have e2:(E*4503599627370496+m)%4503599627370496=m:=by omega
 rw[e2] at a2
 have a3:=orN m F hm (by omega)
 have hmm:=hmulF (mul_one_neg hF1 hF2 hm)
 obtain⟨x,hxx⟩:∃x,9223372036854775808+(E*4503599627370496+m)=x:=⟨_,rfl⟩
 rw[hxx] at c0 C1 C2 C3 a2|-
 obtain⟨sm,hsm⟩:∃sm:Int,((9223372036854775808+m:Nat):Int)=sm:=⟨_,rfl⟩
 rw[hsm] at a2 a3
 obtain⟨k1',hk1'⟩:∃k1',wrap64 k=k1':=⟨_,rfl⟩
 have hkk:k1'=k:=by rw[<-hk1'];unfold wrap64;omega
 obtain⟨q1,hq1⟩:∃q1,(x:Int)/4503599627370496=q1:=⟨_,rfl⟩
 have hqq:q1=((2048+E:Nat):Int):=by rw[<-hq1,<-hxx];omega
 obtain⟨q2,hq2⟩:∃q2,wrap64 q1=q2:=⟨_,rfl⟩
 have hqq2:q2=((2048+E:Nat):Int):=by rw[<-hq2,hqq];unfold wrap64;omega
 obtain⟨q3,hq3⟩:∃q3,bits .and .i64 q2 2047=q3:=⟨_,rfl⟩
 have hqq3:q3=E:=by rw[<-hq3,hqq2];exact and2047J E (by omega)
 obtain⟨q4,hq4⟩:∃q4,wrap64 (q3-1023)=q4:=⟨_,rfl⟩
 have hqq4:q4=(E:Int)-1023:=by rw[<-hq4,hqq3];unfold wrap64;omega
 obtain⟨g,hg⟩:∃g,wrap64 (k1'+q4)=g:=⟨_,rfl⟩
 have hgg:g=(F:Int)-1023:=by rw[<-hg,hkk,hqq4];unfold wrap64;omega
 have g1:¬g< -1075:=by omega
 have g2:¬g>1023:=by omega
 have g3:¬g< -1022:=by omega
 have hor:bits .or .u64 sm ((g+1023)*4503599627370496)=((9223372036854775808+(F*4503599627370496+m):Nat):Int):=by rw[<-a3];congr 1;omega
 have ht:((9223372036854775808+(F*4503599627370496+m):Nat):Int).toNat=9223372036854775808+(F*4503599627370496+m):=Int.toNat_natCast _
 obtain⟨R,hR⟩:∃R,9223372036854775808+(F*4503599627370496+m)=R:=⟨_,rfl⟩
 rw[hR] at hmm hor ht|-
 clear e2 hF hxx k1 k2 hkk hqq hqq2 hqq3 hqq4 hgg a3 hR hsm
 go_enter Tryz.func151,Tryz.ntmps151
 go_wp2_with fail
 refine(C2.out _).mono ?_
 rintro z w' ⟨rfl,rfl⟩
 go_wp2_with fail
 refine(C1.out _).mono ?_
 rintro z w' ⟨rfl,rfl⟩
 go_wp2_with fail
 refine(C3.out _).mono ?_
 rintro z w' ⟨rfl,rfl⟩
 go_wp2_with (first|simp only[hmm]|fail)
 go_ret
 exact⟨rfl,rfl⟩
theorem whole_neg (m:Int) (h0:m<0) (h1:-9007199254740992<=m) {S:Int} (hS:S=((2^U:Nat):Int)):Fnt (T.wholeF m)/\iv (T.wholeF m)=m*S:=by
 have hU:=U_eq
 have hBt:=Bt_eq
 have e:T.wholeF m=D.nearest (decide (m<0)) m.natAbs 0:=rfl
 have hneg:decide (m<0)=true:=decide_eq_true (by omega)
 rw[hneg] at e
 have hlt:m.natAbs*2^U<2^(Bt+0):=by
  have e54:(2:Nat)^54=18014398509481984:=by decide
  have h9:m.natAbs*2^U<2^54*2^U:=Nat.mul_lt_mul_of_pos_right (by omega) (Nat.two_pow_pos U)
  rw[<-Nat.pow_add] at h9
  exact Nat.lt_of_lt_of_le h9 (Nat.pow_le_pow_right (by decide) (by omega))
 obtain⟨f,v⟩:=nearest_spec true m.natAbs 0 0 (m.natAbs*2^U) (by omega) (by rw[show((0:Int)+1074+((0:Nat):Int)).toNat=U by omega]) hlt
 rw[<-e] at f v
 refine⟨f,?_⟩
 rw[v,rns_zero]
 have hr:rnd (m*2^U)=m*2^U:=by rw[rnd_scale,(rep_small (n:=m) (by have:(2:Int)^53=9007199254740992:=by decide
                                                                  omega) (by have:(2:Int)^53=9007199254740992:=by decide
                                                                             omega)).rnd_eq]
 have hp:=pow_pos_int U
 have hmn:m*2^U<0:=by have:=Int.mul_lt_mul_of_pos_right h0 hp;omega
 unfold rnd at hr
 rw[if_pos hmn,Int.natAbs_mul,Int.natAbs_pow] at hr
 have e2:(2:Int)^U=S:=by rw[hS];exact(Int.natCast_pow _ _).symm
 rw[e2] at hr
 simpa using hr
theorem whole_word53 (c:Int) (h1:1<=c) (h2:c<=9007199254740992):∃E m:Nat,floatOfInt .f64 c=E*4503599627370496+m/\m<4503599627370496/\1023<=E/\E<=1076:=by
 obtain⟨f,v⟩:=T.whole_spec c (by omega) (by omega) rfl
 have hS:(0:Int)<((2^U:Nat):Int):=by have:=Nat.two_pow_pos U;omega
 obtain⟨S,hSe⟩:∃S:Int,((2^U:Nat):Int)=S:=⟨_,rfl⟩
 rw[hSe] at v hS
 have w1:iv 4607182418800017408=S:=by
  have:=T.whole_spec 1 (by decide) (by decide) rfl
  rw[hSe,Int.one_mul] at this
  exact(congrArg iv (show(4607182418800017408:Nat)=floatOfInt .f64 1 by decide+kernel)).trans this.2
 have w2:iv 4845873199050653696=9007199254740992*S:=by
  have:=T.whole_spec 9007199254740992 (by decide) (by decide) rfl
  rw[hSe] at this
  exact(congrArg iv (show(4845873199050653696:Nat)=floatOfInt .f64 9007199254740992 by decide+kernel)).trans this.2
 show ∃E m:Nat,T.wholeF c=_/\_
 obtain⟨b,hb⟩:∃b,T.wholeF c=b:=⟨_,rfl⟩
 rw[hb] at f v|-
 obtain⟨f1,f2⟩:=f
 have p1:S<=c*S:=by have:=Int.mul_le_mul_of_nonneg_right h1 (Int.le_of_lt hS);rwa [Int.one_mul] at this
 have p2:c*S<=9007199254740992*S:=Int.mul_le_mul_of_nonneg_right h2 (Int.le_of_lt hS)
 rw[<-v] at p1 p2
 have hb3:b<9223372036854775808:=by
  rcases Nat.lt_or_ge b 9223372036854775808 with h|h
  ·exact h
  ·have:=iv_negw (r:=b-9223372036854775808) (by omega)
   rw[show 9223372036854775808+(b-9223372036854775808)=b by omega] at this
   omega
 have hlo:4607182418800017408<=b:=by
  rcases Nat.lt_or_ge b 4607182418800017408 with h|h
  ·have:=iv_grow (r:=b) (4607182418800017408-b) (by omega) (by omega)
   rw[show b+(4607182418800017408-b)=4607182418800017408 by omega,w1] at this
   omega
  ·exact h
 have hhi:b<=4845873199050653696:=by
  rcases Nat.lt_or_ge 4845873199050653696 b with h|h
  ·have:=iv_grow (r:=4845873199050653696) (b-4845873199050653696) (by omega) (by omega)
   rw[show 4845873199050653696+(b-4845873199050653696)=b by omega,w2] at this
   omega
  ·exact h
 exact⟨b/4503599627370496,b%4503599627370496,by omega,Nat.mod_lt _ (by decide),by omega,by omega⟩
theorem whole_word_neg (c:Int) (h1:1<=c) (h2:c<=9007199254740992):floatOfInt .f64 (-c)=9223372036854775808+floatOfInt .f64 c:=by
 show T.wholeF (-c)=9223372036854775808+T.wholeF c
 obtain⟨f,v⟩:=T.whole_spec c (by omega) (by omega) rfl
 obtain⟨f',v'⟩:=whole_neg (-c) (by omega) (by omega) rfl
 obtain⟨E,m,e,hm,h3,h4⟩:=whole_word53 c h1 h2
 have e':T.wholeF c=E*4503599627370496+m:=e
 refine fnt_eq_neg f' (by rw[e'];omega) (by rw[v',v,Int.neg_mul]) ?_
 rw[e']
 exact iv_pos_gt (by omega) (by omega) hm
def vW (c k:Int):Nat:=if c=0 then 0 else((floatOfInt .f64 c:Int)+k*4503599627370496).toNat
theorem Ldexp_whole (c k:Int) (h0:-9007199254740992<=c) (h2:c<=9007199254740992) (k0:-1000<=k) (k2:k<=900) (w:World):Calls Tryz.prog 117 #[.float .f64 (floatOfInt .f64 c),.int .i64 k] w fun z w'=>z=.returned (.float .f64 (vW c k))/\w=w':=by
 by_cases hc:c=0
 ·subst hc
  exact Ldexp_of _ _ _ _ (fun w=>ldexp_zero k w)
 ·by_cases hn:0<c
  ·obtain⟨E,m,e,hm,h3,h4⟩:=whole_word53 c (by omega) h2
   have hb:vW c k=((E:Int)+k).toNat*4503599627370496+m:=by unfold vW;rw[if_neg hc,e];omega
   rw[hb,e]
   exact Ldexp_of _ _ _ _ (fun w=>ldexp_pos E m k w (by omega) (by omega) hm (by omega) (by omega))
  ·obtain⟨E,m,e,hm,h3,h4⟩:=whole_word53 (-c) (by omega) (by omega)
   have e2:=whole_word_neg (-c) (by omega) (by omega)
   rw[Int.neg_neg,e] at e2
   have hb:vW c k=9223372036854775808+(((E:Int)+k).toNat*4503599627370496+m):=by unfold vW;rw[if_neg hc,e2];omega
   rw[hb,e2]
   exact Ldexp_of _ _ _ _ (fun w=>ldexp_neg E m k w (by omega) (by omega) hm (by omega) (by omega))
theorem fits_lo {b:Nat} (h:b<18446744073709551616) (h2:b%9223372036854775808<8660422083433463808):fitsB 8660422083433463808 b=true:=by
 unfold fitsB
 have hf:Fnt (b%9223372036854775808):=⟨by omega,by omega⟩
 have hg:iv (b%9223372036854775808)<iv 8660422083433463808:=by
  have:=iv_grow (r:=b%9223372036854775808) (8660422083433463808-b%9223372036854775808) (by omega) (by omega)
  rwa [show b%9223372036854775808+(8660422083433463808-b%9223372036854775808)=8660422083433463808 by omega] at this
 have:Ieee.double.order (b%9223372036854775808) 8660422083433463808=some .lt:=by
  show D.order _ _=_
  rw[order_spec hf (by decide),Int.compare_eq_lt.2 hg]
 rw[this]
 rfl
theorem vW_fits (c k:Int) (h0:-9007199254740992<c) (h2:c<9007199254740992) (k0:-1000<=k) (k2:k<=840):fitsB W900 (vW c k)=true/\vW c k<2^64:=by
 have hp:(2:Nat)^64=18446744073709551616:=by decide
 have key:vW c k<18446744073709551616/\vW c k%9223372036854775808<8660422083433463808:=by
  by_cases hc:c=0
  ·subst hc
   have e:vW 0 k=0:=rfl
   rw[e]
   exact⟨by decide,by decide⟩
  ·by_cases hn:0<c
   ·obtain⟨E,m,e,hm,h3,h4⟩:=whole_word53 c (by omega) (by omega)
    have hb:vW c k=((E:Int)+k).toNat*4503599627370496+m:=by unfold vW;rw[if_neg hc,e];omega
    omega
   ·obtain⟨E,m,e,hm,h3,h4⟩:=whole_word53 (-c) (by omega) (by omega)
    have e2:=whole_word_neg (-c) (by omega) (by omega)
    rw[Int.neg_neg,e] at e2
    have hb:vW c k=9223372036854775808+(((E:Int)+k).toNat*4503599627370496+m):=by unfold vW;rw[if_neg hc,e2];omega
    omega
 exact⟨fits_lo key.1 key.2,by omega⟩
end Go.Proofs.YtmgfaeineklccaaGreat
/- eft.Scale of whole numbers; law 20's Num.value. -/
set_option maxRecDepth 100000
set_option linter.unusedSimpArgs false
set_option linter.unusedVariables false
namespace Go.Proofs.YtmgfaeineklccaaGreat
open Go.RowKit Go.Lib Fl
@[go_sem] theorem run_max_int13 {P:Program} (w:World) (ts:Array TypeId) (t:TypeId) (x y:Int):
  (Builtin.max_ ts t #[.int .i64 x,.int .i64 y]).run P w=.ok (.int .i64 (max x y)) w:=by
 show([Value.int .i64 y].foldlM Builtin.max2 (.int .i64 x)).run P w=_
 simp[List.foldlM,Builtin.max2]
 omega
@[go_sem] theorem run_min_int13 {P:Program} (w:World) (ts:Array TypeId) (t:TypeId) (x y:Int):
  (Builtin.min_ ts t #[.int .i64 x,.int .i64 y]).run P w=.ok (.int .i64 (min x y)) w:=by
 show([Value.int .i64 y].foldlM Builtin.min2 (.int .i64 x)).run P w=_
 simp[List.foldlM,Builtin.min2]
 omega
theorem Scale_whole (c k:Int) (h0:-9007199254740992<=c) (h2:c<=9007199254740992) (k0:-1000<=k) (k2:k<=900) (w:World):Calls Tryz.prog 66 #[.float .f64 (floatOfInt .f64 c),.int .i64 k] w fun z w'=>z=.returned (.float .f64 (vW c k))/\w=w':=by
 have H:=Lib.hid (fun w=>Ldexp_whole c k h0 h2 k0 k2 w)
 obtain⟨x,hx⟩:∃x,floatOfInt .f64 c=x:=⟨_,rfl⟩
 obtain⟨y,hy⟩:∃y,vW c k=y:=⟨_,rfl⟩
 have e1:min k 3000=k:=by omega
 have e2:max (-3000) k=k:=by omega
 rw[hx,hy] at H
 rw[hx,hy]
 clear hx hy
 go_enter Tryz.func66,Tryz.ntmps66
 go_wp2_with (first|simp only[e1,e2]|fail)
 refine(H.out _).mono ?_
 rintro z w' ⟨rfl,rfl⟩
 go_wp2
 go_ret
 exact⟨rfl,rfl⟩
def vN (M E:Int):Nat:=vW (M.tmod 9007199254740992) (E.tmod 900-60)
theorem tmod_rng (x:Int) (m:Int) (hm:0<m):-m<x.tmod m/\x.tmod m<m:=by
 have h1:=Int.lt_tmod_of_pos x hm
 have h2:=Int.tmod_lt_of_pos x hm
 omega
theorem vN_fits (M E:Int):fitsB W900 (vN M E)=true/\vN M E<2^64:=by
 have h1:=tmod_rng M 9007199254740992 (by decide)
 have h2:=tmod_rng E 900 (by decide)
 exact vW_fits _ _ (by omega) (by omega) (by omega) (by omega)
theorem value20 (M E:Int) (w:World):Calls Tryz.prog 78 #[.agg #[.int .i64 M,.int .i64 E]] w fun z w'=>z=.returned (.float .f64 (vN M E))/\Below w.heap.size w w':=by
 have h1:=tmod_rng M 9007199254740992 (by decide)
 have h2:=tmod_rng E 900 (by decide)
 obtain⟨c,hc⟩:∃c,M.tmod 9007199254740992=c:=⟨_,rfl⟩
 obtain⟨k,hk⟩:∃k,E.tmod 900=k:=⟨_,rfl⟩
 have H:=Lib.hid (fun w=>Scale_whole c (k-60) (by omega) (by omega) (by omega) (by omega) w)
 have e1:wrap64 (k-60)=k-60:=by unfold wrap64;omega
 obtain⟨y,hy⟩:∃y,vW c (k-60)=y:=⟨_,rfl⟩
 have hv:vN M E=y:=by unfold vN;rw[hc,hk,hy]
 rw[hy] at H
 rw[hv]
 clear hy hv h1 h2
 obtain⟨W,hW⟩:∃W,W=w.alloc (.cells #[.int .i64 M,.int .i64 E] 136):=⟨_,rfl⟩
 have hb:Below w.heap.size w W:=by rw[hW];exact(Below.refl _ w).alloc (Nat.le_refl _) _
 go_enter Tryz.func78,Tryz.ntmps78
 go_wp2_with (first|simp only[hc,hk,e1]|fail)
 refine(H.out _).mono ?_
 rintro z w' ⟨rfl,rfl⟩
 go_wp2
 go_ret
 exact⟨rfl,by rw[<-hW];exact hb⟩
end Go.Proofs.YtmgfaeineklccaaGreat
/- Law 20's numbers. -/
set_option maxRecDepth 100000
set_option maxHeartbeats 2000000
set_option linter.unusedSimpArgs false
set_option linter.unusedVariables false
namespace Go.Proofs.YtmgfaeineklccaaGreat
open Go.RowKit Go.Lib Fl
abbrev Nm:=(Int×Int)×(Int×Int)
def NmAt (w:World) (A:Option Addr) (n:Nat) (f:Nat->Nm):Prop:=∀i,i<n->∃b o,A=some ⟨b,o,none⟩/\(w.cell? ⟨b,o+i*4,none⟩=some (.int .i64 (f i).1.1)/\w.cell? ⟨b,o+i*4+1,none⟩=some (.int .i64 (f i).1.2))/\(w.cell? ⟨b,o+i*4+2,none⟩=some (.int .i64 (f i).2.1)/\w.cell? ⟨b,o+i*4+3,none⟩=some (.int .i64 (f i).2.2))
theorem NmAt.keep {W w1:World} {A:Option Addr} {n:Nat} {f:Nat->Nm} (hb:Below W.heap.size W w1) (h:NmAt W A n f):NmAt w1 A n f:=fun i hi=>by
 obtain⟨b,o,e,⟨h1,h2⟩,h3,h4⟩:=h i hi
 exact⟨b,o,e,⟨keep_cell hb h1,keep_cell hb h2⟩,keep_cell hb h3,keep_cell hb h4⟩
def nmR (u:Nm):Rx:=(⟨vN u.1.1 u.1.2,(vN_fits _ _).2⟩,⟨vN u.2.1 u.2.2,(vN_fits _ _).2⟩)
def nmC (f:Nat->Nm) (l:Nat):Nat->Cx:=fun i=>if i<l then nC (nmR (f i)) else(0,0)
theorem nmC_at (f:Nat->Nm) (l k:Nat) (h:k<l):nmC f l k=nC (nmR (f k)):=by unfold nmC;rw[if_pos h]
theorem keepPut14 {w:World} {g j b o o':Nat} {u:Rx} {x y:Value} (hb:b≠g) (h:w.cell? ⟨b,o,none⟩=some x/\w.cell? ⟨b,o',none⟩=some y):(putC w g j u).cell? ⟨b,o,none⟩=some x/\(putC w g j u).cell? ⟨b,o',none⟩=some y:=by
 have ne:∀p q:Nat,(⟨g,p,none⟩:Addr)≠⟨b,q,none⟩:=fun p q h=>hb (congrArg Addr.block h).symm
 have ne':∀p q:Nat,(⟨b,p,none⟩:Addr)≠⟨g,q,none⟩:=fun p q h=>hb (congrArg Addr.block h)
 unfold putC
 constructor
 ·rw[World.cell?_setCell_other _ _ _ _ (by first|exact ne _ _|exact ne' _ _),World.cell?_setCell_other _ _ _ _ (by first|exact ne _ _|exact ne' _ _)];exact h.1
 ·rw[World.cell?_setCell_other _ _ _ _ (by first|exact ne _ _|exact ne' _ _),World.cell?_setCell_other _ _ _ _ (by first|exact ne _ _|exact ne' _ _)];exact h.2
theorem Numbers20 (A:Option Addr) (l c n:Nat) (f:Nat->Nm) (w:World) (hA:NmAt w A l f) (hn:n<=16384):
  Calls Tryz.prog 27 #[.slice A l c,.int .i64 n] w fun z w'=>z=.returned (.slice (some ⟨w.heap.size,0,none⟩) n n)/\w.heap.size<w'.heap.size/\RowC w' w.heap.size n (nmC f l)/\Below w.heap.size w w':=by
 have hmk:=mk_C n (by omega)
 have HA:=Lib.hid hA
 clear hA
 go_enter Tryz.func27,Tryz.ntmps27
 go_wp2
 go_loopw [6] (fun vi wr=>∃k:Nat,k<=n/\vi=.int .i64 k/\Hid (RowC wr w.heap.size n (upToC k (nmC f l)))/\Hid (w.heap.size<wr.heap.size)/\Hid (Below w.heap.size w wr)) (fun vi _=>n-(intOf vi).toNat)
 case atStart=>exact⟨0,by omega,rfl,Lib.hid ((zs_rowC n w _).congr fun i hi=>by unfold upToC;simp),Lib.hid (by simp),Lib.hid ((Below.refl _ w).alloc (Nat.le_refl _) _)⟩
 case round=>
  obtain⟨k,hk,rfl,hr,hsz,hb⟩:=hrel
  by_cases hlt:k<n
  ·by_cases hll:k<l
   ·have hki:(k:Int)<n:=by omega
    have hkl:(k:Int)<l:=by omega
    obtain⟨b,o,e,⟨c0,c1⟩,c2,c3⟩:=HA.out.keep hb.out k hll
    have hbl:b≠w.heap.size:=by
     obtain⟨b',o',e',⟨d0,-⟩,-⟩:=HA.out k hll
     rw[e] at e'
     simp only[Option.some.injEq,Addr.mk.injEq,and_true] at e'
     obtain⟨rfl,rfl⟩:=e'
     have:=World.block_lt_of_cell? _ _ d0
     simp only at this
     omega
    subst e
    have HROW:=Lib.hid (nmC_at f l k hll)
    obtain⟨a1,ha1⟩:∃a1,(f k).1.1=a1:=⟨_,rfl⟩
    obtain⟨a2,ha2⟩:∃a2,(f k).1.2=a2:=⟨_,rfl⟩
    obtain⟨a3,ha3⟩:∃a3,(f k).2.1=a3:=⟨_,rfl⟩
    obtain⟨a4,ha4⟩:∃a4,(f k).2.2=a4:=⟨_,rfl⟩
    rw[ha1] at c0
    rw[ha2] at c1
    rw[ha3] at c2
    rw[ha4] at c3
    have HV1:=Lib.hid (value20 a1 a2)
    have HV2:=Lib.hid (value20 a3 a4)
    obtain⟨q,hq⟩:∃q:Rx,q=nmR (f k):=⟨_,rfl⟩
    have hq1:vN a1 a2=(q.1:Nat):=by rw[hq,<-ha1,<-ha2];rfl
    have hq2:vN a3 a4=(q.2:Nat):=by rw[hq,<-ha3,<-ha4];rfl
    rw[<-hq] at HROW
    rw[hq1] at HV1
    rw[hq2] at HV2
    have HKN:=Lib.hid hlt
    clear ha1 ha2 ha3 ha4 hq hq1 hq2 hll hlt
    go_upto_region 5 with(fail)
    refine wp_region_S (fun w'=>(w'.cell? ⟨b,o+k*4,none⟩=some (.int .i64 a1)/\w'.cell? ⟨b,o+k*4+1,none⟩=some (.int .i64 a2))/\(w'.cell? ⟨b,o+k*4+2,none⟩=some (.int .i64 a3)/\w'.cell? ⟨b,o+k*4+3,none⟩=some (.int .i64 a4))) 15 (by kernel_rfl) ?_
    have hS0:=(⟨⟨c0,c1⟩,c2,c3⟩:(wr.drew.cell? ⟨b,o+k*4,none⟩=some (.int .i64 a1)/\wr.drew.cell? ⟨b,o+k*4+1,none⟩=some (.int .i64 a2))/\(wr.drew.cell? ⟨b,o+k*4+2,none⟩=some (.int .i64 a3)/\wr.drew.cell? ⟨b,o+k*4+3,none⟩=some (.int .i64 a4)))
    refine Takes.intro [0,1,2,3,4,5,6,8,9,10,11,12] ?_
    repeat(refine Takes.step (v:=?_) (by kernel_rfl) rfl (fun _ _ _ h=>h) rfl hS0 (fun w hSw=>by(try dsimp only at hSw);go_simp;try with_reducible rfl) ?_;try simp only[List.getElem_toArray,List.getElem_cons_zero,List.getElem_cons_succ,Act.put,List.setIfInBounds_toArray,List.set_cons_zero,List.set_cons_succ])
    refine Takes.nil ?_
    refine wpAnyS_one (i:=7) (by kernel_rfl) rfl rfl (fun K hK=>?_)
    go_simp
    refine(HV1.out _).mono ?_
    rintro z w2 ⟨rfl,hb2⟩
    have HB2:Hid (Below wr.heap.size wr w2):=Lib.hid ((Below.refl _ wr).drew.trans hb2)
    have hS1:(w2.cell? ⟨b,o+k*4,none⟩=some (.int .i64 a1)/\w2.cell? ⟨b,o+k*4+1,none⟩=some (.int .i64 a2))/\(w2.cell? ⟨b,o+k*4+2,none⟩=some (.int .i64 a3)/\w2.cell? ⟨b,o+k*4+3,none⟩=some (.int .i64 a4)):=⟨⟨keep_cell HB2.out c0,keep_cell HB2.out c1⟩,keep_cell HB2.out c2,keep_cell HB2.out c3⟩
    clear hb2
    refine hK.out _ _ (fun _=>hS1) ?_
    clear hK K
    try simp only[List.getElem_toArray,List.getElem_cons_zero,List.getElem_cons_succ,Act.put,List.setIfInBounds_toArray,List.set_cons_zero,List.set_cons_succ]
    refine wpAnyS_one (i:=13) (by kernel_rfl) rfl rfl (fun K hK=>?_)
    go_simp
    refine(HV2.out _).mono ?_
    rintro z w3 ⟨rfl,hb3⟩
    have HB3:Hid (Below wr.heap.size wr w3):=Lib.hid (HB2.out.trans (hb3.mono HB2.out.size))
    have hS2:(w3.cell? ⟨b,o+k*4,none⟩=some (.int .i64 a1)/\w3.cell? ⟨b,o+k*4+1,none⟩=some (.int .i64 a2))/\(w3.cell? ⟨b,o+k*4+2,none⟩=some (.int .i64 a3)/\w3.cell? ⟨b,o+k*4+3,none⟩=some (.int .i64 a4)):=⟨⟨keep_cell HB3.out c0,keep_cell HB3.out c1⟩,keep_cell HB3.out c2,keep_cell HB3.out c3⟩
    have HR3:=Lib.hid (hr.out.keep HB3.out)
    obtain⟨x,x0,x1,x2,x3,-⟩:=HR3.out k HKN.out
    clear hb3
    refine hK.out _ _ (fun _=>hS2) ?_
    clear hK K
    try simp only[List.getElem_toArray,List.getElem_cons_zero,List.getElem_cons_succ,Act.put,List.setIfInBounds_toArray,List.set_cons_zero,List.set_cons_succ]
    refine Takes.intro [14] ?_
    repeat(refine Takes.step (v:=?_) (by kernel_rfl) rfl (fun _ _ _ h=>h) rfl hS2 (fun w hSw=>by(try dsimp only at hSw);go_simp;try with_reducible rfl) ?_;try simp only[List.getElem_toArray,List.getElem_cons_zero,List.getElem_cons_succ,Act.put,List.setIfInBounds_toArray,List.set_cons_zero,List.set_cons_succ])
    refine Takes.nil ?_
    refine wpAnyS_end 2 15 (by kernel_rfl) (by decide) rfl ?_
    simp only[List.toList_toArray,List.drop_succ_cons,List.drop_zero]
    have HR4:Hid (RowC (putC w3 w.heap.size k q) w.heap.size n (upToC (k+1) (nmC f l))):=Lib.hid ((HR3.out.set HKN.out q).congr fun i hi=>by
     rw[<-upToC_next,HROW.out])
    have HB4:Hid (Below w.heap.size w (putC w3 w.heap.size k q)):=Lib.hid (((hb.out.trans (HB3.out.mono hb.out.size)).setCell (p:=⟨_,_,_⟩) (Nat.le_refl _) _).setCell (p:=⟨_,_,_⟩) (Nat.le_refl _) _)
    have HS4:Hid (w.heap.size<(putC w3 w.heap.size k q).heap.size):=Lib.hid (by have:=HB3.out.size;have:=hsz.out;unfold putC;simp;omega)
    have hK9:=HKN.out
    clear hS0 hS1 hS2 c0 c1 c2 c3 hr hsz hb HB2 HB3 HR3
    go_wp2
    exact⟨⟨k+1,by omega,by go_num,HR4,HS4,HB4⟩,by simp[intOf];omega⟩
   ·have hki:(k:Int)<n:=by omega
    have hkl:¬(k:Int)<l:=by omega
    have HR:Hid (RowC wr w.heap.size n (nmC f l)):=Lib.hid (hr.out.congr fun i hi=>by unfold upToC nmC;by_cases h1:i<k;rw[if_pos h1];rw[if_neg h1,if_neg (by omega)])
    go_wp2
    go_ret
    exact⟨rfl,hsz.out,HR.out,hb.out⟩
  ·obtain rfl:k=n:=by omega
   have HR:Hid (RowC wr w.heap.size k (nmC f l)):=Lib.hid (hr.out.congr fun i hi=>by unfold upToC;rw[if_pos hi])
   go_wp2
   go_ret
   exact⟨rfl,hsz.out,HR.out,hb.out⟩
end Go.Proofs.YtmgfaeineklccaaGreat
/- Law 20's numbers are small enough for every transform (plain). -/
set_option maxRecDepth 100000
set_option linter.unusedSimpArgs false
set_option linter.unusedVariables false
namespace Go.Proofs.YtmgfaeineklccaaGreat
open Go.RowKit Go.Lib Fl
theorem nz_lt16 {x:Nat} (h:x<18446744073709551616):nz x<18446744073709551616:=by
 unfold nz
 split
 ·decide
 ·exact h
theorem nm_word (u:Nm):(fitsB W900 (nz (vN u.1.1 u.1.2))=true/\nz (vN u.1.1 u.1.2)<2^64)/\(fitsB W900 (nz (vN u.2.1 u.2.2))=true/\nz (vN u.2.1 u.2.2)<2^64):=by
 obtain⟨a1,a2⟩:=vN_fits u.1.1 u.1.2
 obtain⟨b1,b2⟩:=vN_fits u.2.1 u.2.2
 exact⟨⟨by rw[fits_nz];exact a1,nz_lt16 a2⟩,by rw[fits_nz];exact b1,nz_lt16 b2⟩
theorem nm_fits (f:Nat->Nm) (nl i:Nat):(fitsB W900 (nmC f nl i).1=true/\(nmC f nl i).1<2^64)/\(fitsB W900 (nmC f nl i).2=true/\(nmC f nl i).2<2^64):=by
 unfold nmC
 split
 ·exact nm_word (f i)
 ·exact⟨⟨by decide+kernel,by decide⟩,by decide+kernel,by decide⟩
theorem nm_guard (f:Nat->Nm) (nl n:Nat):guardE (nmC f nl) n=0:=guardE_zero.2 fun i _=>by
 unfold fitsC
 rw[(nm_fits f nl i).1.1,(nm_fits f nl i).2.1]
 rfl
open CG in
theorem nm_fin (f:Nat->Nm) (nl i:Nat):FinC (nmC f nl i)/\nsq (vC (nmC f nl i))<=RR.of (om*om/56539106072908298546665520023773392506479484700019806659891398441363832832):=by
 obtain⟨⟨a1,a2⟩,b1,b2⟩:=nm_fits f nl i
 obtain⟨c1,c2⟩:=fits_val a1 a2
 obtain⟨d1,d2⟩:=fits_val b1 b2
 refine⟨⟨c1,d1⟩,?_⟩
 rw[nsq_vC]
 refine RR.of_le.2 ?_
 unfold nq
 grind
theorem word_fin {x y:Nat} (h:nz x=y) (hf:Fnt y):x=y:=by
 unfold nz at h
 split at h
 ·subst h
  exact absurd hf (by decide)
 ·exact h
theorem ord_selfE16 {x:Nat} (h:Fnt x):(FloatKind.f64.format.order x x==some Ordering.eq)=true:=by
 have:=ord_self h
 cases hc:FloatKind.f64.format.order x x with
 |none=>rw[hc] at this;cases this
 |some o=>rw[hc] at this;cases o<;>first|rfl|cases this
open CG in
theorem same_fin {c:Cx} {u v:Rx} (hu:nC u=c) (hv:nC v=c) (hf:FinC c):(v.1:Nat)=u.1/\(v.2:Nat)=u.2/\(FloatKind.f64.format.order u.1 u.1==some Ordering.eq)=true/\(FloatKind.f64.format.order u.2 u.2==some Ordering.eq)=true:=by
 have e1:=word_fin (congrArg Prod.fst hu) hf.1
 have e2:=word_fin (congrArg Prod.snd hu) hf.2
 have e3:=word_fin (congrArg Prod.fst hv) hf.1
 have e4:=word_fin (congrArg Prod.snd hv) hf.2
 exact⟨e3.trans e1.symm,e4.trans e2.symm,ord_selfE16 (by rw[e1];exact hf.1),ord_selfE16 (by rw[e2];exact hf.2)⟩
theorem run_eqF_any (d:Nat) {x:Nat} (w:World) (h:(FloatKind.f64.format.order x x==some Ordering.eq)=true):(Op.equalIn (d+1) 33 (.float .f64 x) (.float .f64 x)).run Tryz.prog w=.ok true w:=by
 have h2:Op.floatEq FloatKind.f64 x x=true:=h
 simp[Op.equalIn,run_underlying Tryz.underlying33,h2]
theorem neq_C20 (u:Rx) (h1:(FloatKind.f64.format.order u.1 u.1==some Ordering.eq)=true) (h2:(FloatKind.f64.format.order u.2 u.2==some Ordering.eq)=true) (w:World):(binOp .neq 52 (cV u) (cV u)).run Tryz.prog w=.ok (.bool false) w:=by
 have u3:=Tryz.underlying33
 have a3:=Tryz.isAgg33
 have z3:=Tryz.sizeOf33
 have hS:Tryz.prog.underlying 52=some (.struct (Tryz.prog.fieldsOf 52)):=by kernel_rfl
 have hp:Tryz.prog.stoodInHeld 52=false:=by kernel_rfl
 have e1:=run_eqF_any 9998 (x:=u.1) w h1
 have e2:=run_eqF_any 9998 (x:=u.2) w h2
 rw[show 9998+1=9999 from rfl] at e1 e2
 rw[run_neq_struct,show(10000:Nat)=9999+1 from rfl,run_equalIn_agg w 9999 52 _ _ hS hp]
 simp only[Program.fieldsOf,Tryz.underlying52]
 go_simp
theorem exe20 (k r:Int) (q:Fo) (N:Nat) (h1:1<=N) (hN:N<=300) (hv:checkE k N r q N=0) (hq:q.count<=524288) (f:Nat->Nm) (nl:Nat) (s:Int) (hs:s=1\/s=-1) (w:World) (A:Option Addr) (c:Nat) (X:Option Addr) (cx:Nat) (hk:Kids w A 0 q) (hX:CsAt w X N (nmC f nl)):
  Calls Tryz.prog 24 #[plV k N r A q.len c,.slice X N cx,.int .i64 s] w fun z w'=>∃g,z=.returned (.tuple #[.slice (some ⟨g,0,none⟩) N N,.int .i64 0])/\w.heap.size<=g/\g<w'.heap.size/\RowC w' g N (exF k N r q s (nmC f nl))/\Below w.heap.size w w':=
 Execute_ok k r q N (exF k N r q) (planE_all (B:=300) (by decide) k r N q hv hN) (chkC_of k N r q N hv (by omega)) A c X cx (nmC f nl) s w hk hX (by omega) hs (nm_guard f nl N)
theorem inv20 (k r:Int) (q:Fo) (N:Nat) (h1:1<=N) (hN:N<=300) (hv:checkE k N r q N=0) (hq:q.count<=524288) (f:Nat->Nm) (nl:Nat) (s:Int) (hs:s=1\/s=-1) (w:World) (A:Option Addr) (c:Nat) (X:Option Addr) (cx:Nat) (hk:Kids w A 0 q) (hX:CsAt w X N (nmC f nl)):
  Calls Tryz.prog 25 #[plV k N r A q.len c,.slice X N cx,.int .i64 s] w fun z w'=>(∃v,z=.returned v)/\Below w.heap.size w w':=by
 refine(Inverse_ok k r q N (exF k N r q) (planE_all (B:=300) (by decide) k r N q hv hN) (chkC_of k N r q N hv (by omega)) A c X cx (nmC f nl) s w hk hX h1 (by omega) hs (nm_guard f nl N)).mono ?_
 rintro z w' ⟨g,rfl,-,-,-,hb⟩
 exact⟨⟨_,rfl⟩,hb⟩
open CG in
theorem exe_fin (k r:Int) (q:Fo) (N:Nat) (h1:1<=N) (hN:N<=300) (hv:checkE k N r q N=0) (f:Nat->Nm) (nl:Nat) (s:Int) (hs:s=1\/s=-1):∀i,i<N->FinC (exF k N r q s (nmC f nl) i):=
 (plan_finite k r q N h1 hN hv (nmC f nl) (fun i _=>nm_fin f nl i) s hs).1
end Go.Proofs.YtmgfaeineklccaaGreat
/- The walk of ExecSame. -/
set_option maxRecDepth 100000
set_option maxHeartbeats 8000000
set_option linter.unusedSimpArgs false
set_option linter.unusedVariables false
namespace Go.Proofs.YtmgfaeineklccaaGreat
open Go.RowKit Go.Lib Fl
theorem Same20_any (a0:Int) (b0:-9223372036854775808<=a0) (b1:a0<=9223372036854775807) (A0:Option Addr) (n0 c0:Nat) (g0:Nat->Int) (A1:Option Addr) (n1 c1:Nat) (g1:Nat->Int) (Al:Option Addr) (nl cl:Nat) (f:Nat->Nm) (w:World) (hI0:IntsAt w A0 n0 g0) (hn0:n0<=1125899906842624) (hI1:IntsAt w A1 n1 g1) (hn1:n1<=1125899906842624) (hL:NmAt w Al nl f):
  Calls Tryz.prog 5 #[.int .i64 a0,.agg #[.slice A0 n0 c0,.slice A1 n1 c1],.slice Al nl cl] w fun z w'=>z=.returned (.bool true)/\Below w.heap.size w w':=by
 obtain⟨N,hN⟩:∃N:Nat,1+(if 0<a0 then a0 else 0)%300=(N:Int):=⟨(1+(if 0<a0 then a0 else 0)%300).toNat,by split<;>omega⟩
 have HNN:Hid (1<=N/\N<=300):=Lib.hid (by split at hN<;>omega)
 have HP0:=Lib.hid (fun(w':World) (h:IntsAt w' A0 n0 g0)=>planOf20 N HNN.out.1 (by have:=HNN.out;omega) A0 n0 c0 g0 w' h hn0)
 have HP1:=Lib.hid (fun(w':World) (h:IntsAt w' A1 n1 g1)=>planOf20 N HNN.out.1 (by have:=HNN.out;omega) A1 n1 c1 g1 w' h hn1)
 have HNM:=Lib.hid (fun(w':World) (h:NmAt w' Al nl f)=>Numbers20 Al nl cl N f w' h (by have:=HNN.out;omega))
 have HWK:=Lib.hid wakes20_any
 obtain⟨W1,hW1⟩:∃W1,W1=w.alloc (.cells #[.slice A0 n0 c0,.slice A1 n1 c1] 61):=⟨_,rfl⟩
 have hb1:Below w.heap.size w W1:=by rw[hW1];exact(Below.refl _ w).alloc (Nat.le_refl _) _
 have HC:Hid (W1.cell? ⟨w.heap.size,0,none⟩=some (.slice A0 n0 c0)/\W1.cell? ⟨w.heap.size,1,none⟩=some (.slice A1 n1 c1)):=Lib.hid (by rw[hW1];exact⟨by simp[go_sem],by simp[go_sem]⟩)
 have HI:=Lib.hid (And.intro (hI0.keep hb1) (And.intro (hI1.keep hb1) (hL.keep hb1)))
 have HB1:=Lib.hid hb1
 clear hI0 hI1 hL hn0 hn1 hb1
 go_enter Tryz.func5,Tryz.ntmps5
 go_upto_region 2 with fail
 obtain⟨i1,hi1⟩:∃i1,(if 0<a0 then a0 else 0)=i1:=⟨_,rfl⟩
 rw[<-hW1,hi1]
 clear hW1 hN hi1
 obtain⟨x0,x1⟩:=HC.out
 go_wp2_with fail
 refine(HP0.out W1 HI.out.1).mono ?_
 rintro z w1 ⟨k,r,q,B,c,rfl,hq,hky,hb1⟩
 have HQ:=Lib.hid hq
 have HK:=Lib.hid hky
 have HIW:=Lib.hid (HI.out.2.1.keep hb1)
 have HB2:=Lib.hid (HB1.out.trans (hb1.mono HB1.out.size))
 obtain⟨d,hd⟩:∃d:Bool,decide (checkE k N r q N=0)=d:=⟨_,rfl⟩
 rw[hd]
 have x1:=keep_cell hb1 x1
 have HD:=Lib.hid hd
 clear x0 hq hky hd HP0
 go_upto_region 3 with fail
 obtain⟨W2,hW2⟩:∃W2,W2=w1.alloc (.cells #[.int .i64 k,.int .i64 N,.int .i64 r,.slice B q.len c] 27):=⟨_,rfl⟩
 have hb2:Below w1.heap.size w1 W2:=by rw[hW2];exact(Below.refl _ w1).alloc (Nat.le_refl _) _
 have hp2:PlBox W2 w1.heap.size k N r B q.len c:=by rw[hW2];exact PlBox.new w1 _ _ _ _ _ _ _
 rw[<-hW2]
 obtain⟨bP,hbP⟩:∃bP,w1.heap.size=bP:=⟨_,rfl⟩
 rw[hbP] at hp2|-
 have HPX:=Lib.hid (And.intro hp2 (HK.out.kids.below hb2))
 have HL2:=Lib.hid (((HI.out.2.2.keep hb1).keep hb2))
 have HIW2:=Lib.hid (HIW.out.keep hb2)
 have HB3:=Lib.hid (HB2.out.trans (hb2.mono HB2.out.size))
 have x1:=keep_cell hb2 x1
 clear hW2 hb2 hp2 hbP HK HIW HB2 HC HI HB1 hb1
 go_wp2_with fail
 refine(HP1.out W2 HIW2.out).mono ?_
 rintro z w3 ⟨k2,r2,q2,B2,c2,rfl,hq2,hky2,hb3⟩
 have HQ2:=Lib.hid hq2
 obtain⟨d2,hd2⟩:∃d2:Bool,decide (checkE k2 N r2 q2 N=0)=d2:=⟨_,rfl⟩
 rw[hd2]
 have HD2:=Lib.hid hd2
 have HPX3:=Lib.hid (And.intro (HPX.out.1.below hb3) (HPX.out.2.below hb3))
 have HL3:=Lib.hid (HL2.out.keep hb3)
 have HB4:=Lib.hid (HB3.out.trans (hb3.mono HB3.out.size))
 clear x1 hq2 hd2 HP1 HPX HL2 HIW2 HB3
 go_upto_region 4 with fail
 obtain⟨W4,hW4⟩:∃W4,W4=w3.alloc (.cells #[.int .i64 k2,.int .i64 N,.int .i64 r2,.slice B2 q2.len c2] 27):=⟨_,rfl⟩
 have hb4:Below w3.heap.size w3 W4:=by rw[hW4];exact(Below.refl _ w3).alloc (Nat.le_refl _) _
 have hp4:PlBox W4 w3.heap.size k2 N r2 B2 q2.len c2:=by rw[hW4];exact PlBox.new w3 _ _ _ _ _ _ _
 rw[<-hW4]
 obtain⟨bQ,hbQ⟩:∃bQ,w3.heap.size=bQ:=⟨_,rfl⟩
 rw[hbQ] at hp4|-
 have HPQ:=Lib.hid (And.intro (And.intro (HPX3.out.1.below hb4) (HPX3.out.2.below hb4)) (And.intro hp4 (hky2.kids.below hb4)))
 have HL4:=Lib.hid (HL3.out.keep hb4)
 have HB5:=Lib.hid (HB4.out.trans (hb4.mono HB4.out.size))
 clear hW4 hb4 hp4 hbQ hky2 hb3 HPX3 HL3 HB4
 cases d
 case false=>
  go_wp2_with fail
  refine(HWK.out _).mono ?_
  rintro z w6 ⟨rfl,hb6⟩
  have HB6:=Lib.hid (HB5.out.trans (hb6.mono HB5.out.size))
  clear hb6
  go_wp2_with fail
  refine(HWK.out _).mono ?_
  rintro z w7 ⟨rfl,hb7⟩
  have HB7:=Lib.hid (HB6.out.trans (hb7.mono HB6.out.size))
  clear hb7
  go_wp2
  go_ret
  exact⟨rfl,HB7.out⟩
 case true=>
 cases d2
 case false=>
  go_wp2_with fail
  refine(HWK.out _).mono ?_
  rintro z w6 ⟨rfl,hb6⟩
  have HB6:=Lib.hid (HB5.out.trans (hb6.mono HB5.out.size))
  clear hb6
  go_wp2_with fail
  refine(HWK.out _).mono ?_
  rintro z w7 ⟨rfl,hb7⟩
  have HB7:=Lib.hid (HB6.out.trans (hb7.mono HB6.out.size))
  clear hb7
  go_wp2
  go_ret
  exact⟨rfl,HB7.out⟩
 case true=>
 have HV:Hid (checkE k N r q N=0):=Lib.hid (of_decide_eq_true HD.out)
 have HV2:Hid (checkE k2 N r2 q2 N=0):=Lib.hid (of_decide_eq_true HD2.out)
 have HE:=Lib.hid (fun(w:World) A c X cx hk hX=>exe20 k r q N HNN.out.1 HNN.out.2 HV.out HQ.out f nl 1 (.inl rfl) w A c X cx hk hX)
 have HE2:=Lib.hid (fun(w:World) A c X cx hk hX=>exe20 k2 r2 q2 N HNN.out.1 HNN.out.2 HV2.out HQ2.out f nl (-1) (.inr rfl) w A c X cx hk hX)
 have HV3:=Lib.hid (fun(w:World) A c X cx hk hX=>inv20 k2 r2 q2 N HNN.out.1 HNN.out.2 HV2.out HQ2.out f nl 1 (.inl rfl) w A c X cx hk hX)
 have HF:=Lib.hid (exe_fin k r q N HNN.out.1 HNN.out.2 HV.out f nl 1 (.inl rfl))
 have HFX:=Lib.hid (nm_fin f nl)
 obtain⟨fy,hfy⟩:∃fy,exF k N r q 1 (nmC f nl)=fy:=⟨_,rfl⟩
 rw[hfy] at HE HF
 obtain⟨fx,hfx⟩:∃fx,nmC f nl=fx:=⟨_,rfl⟩
 rw[hfx] at HE HE2 HV3 HNM HFX
 clear hfx hfy HD HD2
 go_wp2_with fail
 refine(HWK.out _).mono ?_
 rintro z w6 ⟨rfl,hb6⟩
 have HB6:=Lib.hid (HB5.out.trans (hb6.mono HB5.out.size))
 have HPQ6:=Lib.hid (And.intro (And.intro (HPQ.out.1.1.below hb6) (HPQ.out.1.2.below hb6)) (And.intro (HPQ.out.2.1.below hb6) (HPQ.out.2.2.below hb6)))
 have HL6:=Lib.hid (HL4.out.keep hb6)
 clear hb6 HB5 HPQ HL4 HWK
 go_wp2_with fail
 refine(HNM.out w6 HL6.out).mono ?_
 rintro z w7 ⟨rfl,hs7,hr7,hb7⟩
 obtain⟨gx,hgx⟩:∃gx,w6.heap.size=gx:=⟨_,rfl⟩
 rw[hgx] at hs7 hr7|-
 have HX7:=Lib.hid hr7
 have HB7:=Lib.hid (HB6.out.trans (hb7.mono HB6.out.size))
 have HPQ7:=Lib.hid (And.intro (And.intro (HPQ6.out.1.1.below hb7) (HPQ6.out.1.2.below hb7)) (And.intro (HPQ6.out.2.1.below hb7) (HPQ6.out.2.2.below hb7)))
 have HL7:=Lib.hid (HL6.out.keep hb7)
 clear hs7 hr7 hb7 hgx HB6 HPQ6 HL6
 obtain⟨x0,x1,x2,x3⟩:=HPQ7.out.1.1
 go_wp2_with fail
 refine(HE.out w7 _ _ _ _ HPQ7.out.1.2 HX7.out.cs).mono ?_
 rintro z w8 ⟨gy,rfl,-,-,hy8,hb8⟩
 have HY8:=Lib.hid hy8
 have HX8:=Lib.hid (HX7.out.keep hb8)
 have HB8:=Lib.hid (HB7.out.trans (hb8.mono HB7.out.size))
 have HPQ8:=Lib.hid (And.intro (And.intro (HPQ7.out.1.1.below hb8) (HPQ7.out.1.2.below hb8)) (And.intro (HPQ7.out.2.1.below hb8) (HPQ7.out.2.2.below hb8)))
 have HL8:=Lib.hid (HL7.out.keep hb8)
 clear hy8 hb8 x0 x1 x2 x3 HX7 HB7 HPQ7 HL7
 obtain⟨x0,x1,x2,x3⟩:=HPQ8.out.2.1
 go_wp2_with fail
 refine(HE2.out w8 _ _ _ _ HPQ8.out.2.2 HX8.out.cs).mono ?_
 rintro z w9 ⟨gy2,rfl,-,-,-,hb9⟩
 have HY9:=Lib.hid (HY8.out.keep hb9)
 have HX9:=Lib.hid (HX8.out.keep hb9)
 have HB9:=Lib.hid (HB8.out.trans (hb9.mono HB8.out.size))
 have HPQ9:=Lib.hid (And.intro (And.intro (HPQ8.out.1.1.below hb9) (HPQ8.out.1.2.below hb9)) (And.intro (HPQ8.out.2.1.below hb9) (HPQ8.out.2.2.below hb9)))
 have HL9:=Lib.hid (HL8.out.keep hb9)
 clear hb9 x0 x1 x2 x3 HX8 HY8 HB8 HPQ8 HL8 HE2
 obtain⟨x0,x1,x2,x3⟩:=HPQ9.out.2.1
 go_wp2_with fail
 refine(HV3.out w9 _ _ _ _ HPQ9.out.2.2 HX9.out.cs).mono ?_
 rintro z w10 ⟨⟨v10,rfl⟩,hb10⟩
 have HY10:=Lib.hid (HY9.out.keep hb10)
 have HX10:=Lib.hid (HX9.out.keep hb10)
 have HB10:=Lib.hid (HB9.out.trans (hb10.mono HB9.out.size))
 have HPQ10:=Lib.hid (And.intro (HPQ9.out.1.1.below hb10) (HPQ9.out.1.2.below hb10))
 have HL10:=Lib.hid (HL9.out.keep hb10)
 clear hb10 x0 x1 x2 x3 HX9 HY9 HB9 HPQ9 HL9 HV3
 obtain⟨x0,x1,x2,x3⟩:=HPQ10.out.1
 go_wp2_with fail
 refine(HE.out w10 _ _ _ _ HPQ10.out.2 HX10.out.cs).mono ?_
 rintro z w11 ⟨gz,rfl,-,-,hz11,hb11⟩
 have HZ11:=Lib.hid hz11
 have HY11:=Lib.hid (HY10.out.keep hb11)
 have HX11:=Lib.hid (HX10.out.keep hb11)
 have HB11:=Lib.hid (HB10.out.trans (hb11.mono HB10.out.size))
 have HL11:=Lib.hid (HL10.out.keep hb11)
 clear hz11 hb11 x0 x1 x2 x3 HX10 HY10 HB10 HPQ10 HL10 HE
 go_wp2_with fail
 refine(HNM.out w11 HL11.out).mono ?_
 rintro z w12 ⟨rfl,hs12,hr12,hb12⟩
 obtain⟨go,hgo⟩:∃go,w11.heap.size=go:=⟨_,rfl⟩
 rw[hgo] at hs12 hr12|-
 have HO:=Lib.hid hr12
 have HZ:=Lib.hid (HZ11.out.keep hb12)
 have HY:=Lib.hid (HY11.out.keep hb12)
 have HX:=Lib.hid (HX11.out.keep hb12)
 have HBW:=Lib.hid (HB11.out.trans (hb12.mono HB11.out.size))
 clear hs12 hr12 hb12 hgo HZ11 HY11 HX11 HB11 HL11 HNM
 go_wp2_with fail
 go_loopw [86] (fun vi wr=>∃j:Nat,j<=N/\vi=.int .i64 j/\Hid (Below w12.heap.size w12 wr)) (fun vi _=>N-(intOf vi).toNat)
 case atStart=>exact⟨0,by omega,rfl,Lib.hid (Below.refl _ _)⟩
 case round=>
  obtain⟨j,hj,rfl,hb⟩:=hrel
  by_cases hlt:j<N
  ·have hji:(j:Int)<N:=by omega
   obtain⟨y,y0,y1,-,-,hy⟩:=(HY.out.keep hb.out) j hlt
   obtain⟨v,z0,z1,-,-,hz⟩:=(HZ.out.keep hb.out) j hlt
   obtain⟨x,x0,x1,-,-,hx⟩:=(HX.out.keep hb.out) j hlt
   obtain⟨o,o0,o1,-,-,ho⟩:=(HO.out.keep hb.out) j hlt
   obtain⟨ez1,ez2,oy1,oy2⟩:=same_fin hy hz (HF.out j hlt)
   obtain⟨eo1,eo2,ox1,ox2⟩:=same_fin hx ho (HFX.out j).1
   rw[ez1] at z0
   rw[ez2] at z1
   rw[eo1] at o0
   rw[eo2] at o1
   have HBR:=Lib.hid hb.out.drew
   have q1:=neq_C20 y oy1 oy2
   have q2:=neq_C20 x ox1 ox2
   have q0:Tryz.prog.eqGuardType Tryz.prog.depth 52=false:=by kernel_rfl
   have hN3:N<=300:=HNN.out.2
   clear hy hz hx ho ez1 ez2 eo1 eo2 HV HV2 HQ HQ2 HF HFX HY HZ HX HO HBW hb
   as_aux_lemma=>
    go_upto_region 17 with(fail)
    refine wp_region_S (fun w'=>((w'.cell? ⟨gy,j*2,none⟩=some (.float .f64 y.1)/\w'.cell? ⟨gy,j*2+1,none⟩=some (.float .f64 y.2))/\(w'.cell? ⟨gz,j*2,none⟩=some (.float .f64 y.1)/\w'.cell? ⟨gz,j*2+1,none⟩=some (.float .f64 y.2)))/\((w'.cell? ⟨gx,j*2,none⟩=some (.float .f64 x.1)/\w'.cell? ⟨gx,j*2+1,none⟩=some (.float .f64 x.2))/\(w'.cell? ⟨go,j*2,none⟩=some (.float .f64 x.1)/\w'.cell? ⟨go,j*2+1,none⟩=some (.float .f64 x.2)))) 18 (by kernel_rfl) ?_
    have hS0:=(⟨⟨⟨y0,y1⟩,z0,z1⟩,⟨x0,x1⟩,o0,o1⟩:((wr.drew.cell? ⟨gy,j*2,none⟩=some (.float .f64 y.1)/\wr.drew.cell? ⟨gy,j*2+1,none⟩=some (.float .f64 y.2))/\(wr.drew.cell? ⟨gz,j*2,none⟩=some (.float .f64 y.1)/\wr.drew.cell? ⟨gz,j*2+1,none⟩=some (.float .f64 y.2)))/\((wr.drew.cell? ⟨gx,j*2,none⟩=some (.float .f64 x.1)/\wr.drew.cell? ⟨gx,j*2+1,none⟩=some (.float .f64 x.2))/\(wr.drew.cell? ⟨go,j*2,none⟩=some (.float .f64 x.1)/\wr.drew.cell? ⟨go,j*2+1,none⟩=some (.float .f64 x.2))))
    refine Takes.intro [0,1,2,3,4,5,6,7,8,9,10,11,12,13,14,15,16,17] ?_
    repeat(first|(refine Takes.step (v:=?_) (by kernel_rfl) rfl (fun _ _ _ h=>h) rfl hS0 (fun w hSw=>by(try dsimp only at hSw);go_simp;try with_reducible rfl) ?_;try simp only[List.getElem_toArray,List.getElem_cons_zero,List.getElem_cons_succ,Act.put,List.setIfInBounds_toArray,List.set_cons_zero,List.set_cons_succ])|(refine Takes.stepG (v:=?_) (by kernel_rfl) rfl (fun _ _ _ h=>h) rfl hS0 (fun w hSw=>by(try dsimp only at hSw);go_simp;try with_reducible rfl) ?_;try simp only[List.getElem_toArray,List.getElem_cons_zero,List.getElem_cons_succ,Act.put,List.setIfInBounds_toArray,List.set_cons_zero,List.set_cons_succ])|(refine Takes.skip (by kernel_rfl) rfl (fun _ _ _ h=>h) rfl hS0 ?_;try simp only[List.getElem_toArray,List.getElem_cons_zero,List.getElem_cons_succ,Act.put,List.setIfInBounds_toArray,List.set_cons_zero,List.set_cons_succ]))
    refine Takes.nil ?_
    refine wpAnyS_end 2 18 (by kernel_rfl) (by decide) rfl ?_
    simp only[List.toList_toArray,List.drop_succ_cons,List.drop_zero]
    clear hS0 x0 x1 y0 y1 z0 z1 o0 o1
    go_wp2
    exact⟨⟨j+1,by omega,by go_num,HBR⟩,by simp[intOf];omega⟩
  ·obtain rfl:j=N:=by omega
   have HBF:=Lib.hid (HBW.out.trans (hb.out.mono HBW.out.size))
   go_wp2
   go_ret
   exact⟨rfl,HBF.out⟩
end Go.Proofs.YtmgfaeineklccaaGreat
/- How an argument of layer 20 looks: pairs of its numbers. -/
set_option maxRecDepth 100000
set_option linter.unusedSimpArgs false
set_option linter.unusedVariables false
namespace Go.Proofs.YtmgfaeineklccaaGreat
open Go.ChangeShapes Go.WideShapes Go.ChangeAt Go.RowKit
theorem cells_num20:Tryz.prog.cellsOf 136=2:=by kernel_rfl
theorem cells_twoNum20:Tryz.prog.cellsOf 137=4:=by kernel_rfl
theorem trod_num20 {H:Type} {enc:TypeId×Value->H} {W:World} {base n:Nat} {sp:Nat->Bool} {hd:Bool} {cs:List Value} {x:DataW H×List MemPlace} (hl:cs.length=2) (h:DataW.trod enc Tryz.prog W base sp hd n 136 cs=some x):∃a b:Int,cs=[.int .i64 a,.int .i64 b]:=by
 obtain⟨c0,c1,rfl⟩:∃a b,cs=[a,b]:=by
  match cs,hl with
  |[a,b],_=>exact⟨a,b,rfl⟩
 obtain⟨xs,m,rfl,hx,_,hn,hel⟩:=DataW.trod_struct Tryz.underlying136 h
 have h0:DataW.trod enc Tryz.prog W base sp hd m 2 ((List.drop 0 [c0,c1]).take (Tryz.prog.cellsOf 2))=xs[0]?:=hel 0 _ rfl
 have h1:DataW.trod enc Tryz.prog W base sp hd m 3 ((List.drop 1 [c0,c1]).take (Tryz.prog.cellsOf 3))=xs[1]?:=hel 1 _ rfl
 rw[cells_int64] at h0
 rw[cells_int] at h1
 obtain⟨y0,y1,rfl⟩:∃a b,xs=[a,b]:=by
  match xs,hn with
  |[a,b],_=>exact⟨a,b,rfl⟩
 obtain⟨x0,e0,_,_⟩:=DataW.trod_int Tryz.underlying2 h0
 obtain⟨x1,e1,_,_⟩:=DataW.trod_int Tryz.underlying3 h1
 simp at e0 e1
 subst e0 e1
 exact⟨x0,x1,rfl⟩
theorem trod_twoNum20 {H:Type} {enc:TypeId×Value->H} {W:World} {base n:Nat} {sp:Nat->Bool} {hd:Bool} {cs:List Value} {x:DataW H×List MemPlace} (hl:cs.length=4) (h:DataW.trod enc Tryz.prog W base sp hd n 137 cs=some x):∃q:Nm,cs=[.int .i64 q.1.1,.int .i64 q.1.2,.int .i64 q.2.1,.int .i64 q.2.2]:=by
 obtain⟨c0,c1,c2,c3,rfl⟩:∃a b c d,cs=[a,b,c,d]:=by
  match cs,hl with
  |[a,b,c,d],_=>exact⟨a,b,c,d,rfl⟩
 obtain⟨xs,m,rfl,hx,_,hn,hel⟩:=DataW.trod_array Tryz.underlying137 h
 have h0:=hel 0 (by omega)
 have h1:=hel 1 (by omega)
 rw[cells_num20] at h0 h1
 obtain⟨y0,y1,rfl⟩:∃a b,xs=[a,b]:=by
  match xs,hn with
  |[a,b],_=>exact⟨a,b,rfl⟩
 obtain⟨p,p',e0⟩:=trod_num20 rfl h0
 obtain⟨u,u',e1⟩:=trod_num20 rfl h1
 simp at e0 e1
 obtain⟨rfl,rfl⟩:=e0
 obtain⟨rfl,rfl⟩:=e1
 exact⟨((p,p'),(u,u')),rfl⟩
theorem shape_nums20 {H:Type} {enc:TypeId×Value->H} {W:World} {base:Nat} {v:Value} {d:DataW H} {p:List MemPlace} (hval:Value.okWide Tryz.prog W .any base 62 v)
  (h:DataW.Trod enc Tryz.prog W 0 (fun _=>true) true 62 v d p):∃A n c f,v=.slice A n c/\NmAt W A n f:=by
 obtain⟨a0,len,cap,rfl⟩:=okWide_slice Tryz.underlying62 hval
 obtain⟨fuel,hf⟩:=h
 rcases Deep.open_slice Tryz.underlying62 hf with⟨hcs,hx⟩|⟨a,len',cap',m,n,D,Pl,hcs,_,hl,hm,hmm,hx,hel⟩
 ·simp[Value.cells] at hcs
  obtain⟨rfl,rfl,rfl⟩:=hcs
  exact⟨_,_,_,fun _=>((0,0),(0,0)),rfl,fun i hi=>by omega⟩
 ·simp[Value.cells] at hcs
  obtain⟨rfl,rfl,rfl⟩:=hcs
  have hlm:len<=m:=by rw[hmm];split<;>omega
  have each:∀i,i<len->∃q:Nm,(W.cell? (a.add (i*4))=some (.int .i64 q.1.1)/\W.cell? (a.add (i*4+1))=some (.int .i64 q.1.2))/\(W.cell? (a.add (i*4+2))=some (.int .i64 q.2.1)/\W.cell? (a.add (i*4+3))=some (.int .i64 q.2.2)):=by
   intro i hi
   obtain⟨cs',h1,h2⟩:=hel i (by omega)
   rw[cells_twoNum20] at h1
   obtain⟨_,hlen,hcell⟩:=World.cells?_some h1
   obtain⟨q,rfl⟩:=trod_twoNum20 hlen h2
   have e0:=hcell 0 (by omega)
   have e1:=hcell 1 (by omega)
   have e2:=hcell 2 (by omega)
   have e3:=hcell 3 (by omega)
   rw[Deep.add_add] at e0 e1 e2 e3
   exact⟨q,⟨by simpa using e0,by simpa using e1⟩,by simpa using e2,by simpa using e3⟩
  obtain⟨q,hq⟩:=Deep.choose_lt each
  refine⟨_,_,_,q,rfl,?_⟩
  intro i hi
  obtain⟨b,off,spot⟩:=a
  have hspot:spot=none:=by simpa[Addr.add] using World.cell?_spot (hq 0 (by omega)).1.1
  subst hspot
  refine⟨b,off,rfl,?_⟩
  have:=hq i hi
  rw[add_plain,add_plain,add_plain,add_plain] at this
  exact this
end Go.Proofs.YtmgfaeineklccaaGreat
