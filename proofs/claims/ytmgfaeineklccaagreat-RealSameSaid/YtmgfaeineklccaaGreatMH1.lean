/- math.Ldexp of a positive normal float, where the result is normal. -/
import Derived.Test.YtmgfaeineklccaaGreatX0
import Derived.Test.YtmgfaeineklccaaGreatTG
import Derived.Test.YtmgfaeineklccaaGreatMQ4
set_option maxRecDepth 100000
set_option maxHeartbeats 2000000
set_option linter.unusedSimpArgs false
set_option linter.unusedVariables false
namespace Go.Proofs.YtmgfaeineklccaaGreat
open Go.RowKit Go.Lib Fl
theorem isnanF_any(x:Nat)(v:Bool)(w:World)(hv:(FloatKind.f64.format.order x x != some Ordering.eq)=v):
  Calls Tryz.prog 165 #[.float .f64 x] w λz w'=>z=.returned (.bool v)/\w=w':=by
 go_enter Tryz.func165,Tryz.ntmps165
 go_wp2
 go_ret
 exact⟨rfl,rfl⟩
theorem isinfF_any(x:Nat)(v:Bool)(w:World)(hx:x<18446744073709551616)(hv:(FloatKind.f64.format.order (x%9223372036854775808) 9218868437227405311==some Ordering.gt)=v):
  Calls Tryz.prog 164 #[.float .f64 x,.int .i64 0] w λz w'=>z=.returned (.bool v)/\w=w':=by
 go_enter Tryz.func164,Tryz.ntmps164
 go_wp2_with fail
 refine(absF_any x _ hx).mono ?_
 rintro z w' ⟨rfl,rfl⟩
 go_wp2
 go_ret
 exact⟨rfl,rfl⟩
theorem normF_any(x:Nat)(w:World)(hx:x<18446744073709551616)(hv:(FloatKind.f64.format.order (x%9223372036854775808) 4503599627370496==some Ordering.lt)=false):
  Calls Tryz.prog 166 #[.float .f64 x] w λz w'=>z=.returned (.tuple #[.float .f64 x,.int .i64 0])/\w=w':=by
 go_enter Tryz.func166,Tryz.ntmps166
 go_wp2_with fail
 refine(absF_any x _ hx).mono ?_
 rintro z w' ⟨rfl,rfl⟩
 go_wp2
 go_ret2
 exact⟨rfl,rfl⟩
theorem and2047F(x:Nat)(h:x<18446744073709551616):bits .and .u64 ((x:Int)/4503599627370496) 2047=((x/4503599627370496%2048:Nat):Int):=by
 have:=u64_and_nat (x/4503599627370496) 2047 (by omega) (by omega)
 rw[show((2047:Nat):Int)=2047 from rfl] at this
 rw[show((x:Int)/4503599627370496)=((x/4503599627370496:Nat):Int) from by simp,this,show(2047:Nat)=2^11-1 from rfl,Nat.and_two_pow_sub_one_eq_mod]
theorem cut_mant(x:Nat)(h:x<9223372036854775808):x &&& 9227875636482146303=x%4503599627370496:=by
 rw[show(4503599627370496:Nat)=2^52 from rfl]
 apply Nat.eq_of_testBit_eq
 intro i
 rw[Nat.testBit_and,Nat.testBit_mod_two_pow]
 by_cases hi:i<52
 ·have k:∀j:Fin 52,Nat.testBit 9227875636482146303 j.1=true:=by decide
  rw[k ⟨i,hi⟩]
  simp[hi]
 ·by_cases h3:i<63
  ·have k:∀j:Fin 63,¬j.1<52->Nat.testBit 9227875636482146303 j.1=false:=by decide
   rw[k ⟨i,h3⟩ hi]
   simp[hi]
  ·have hl:x<2^i:=Nat.lt_of_lt_of_le h (Nat.le_trans (show(9223372036854775808:Nat)<=2^63 by decide) (Nat.pow_le_pow_right (by decide) (by omega)))
   rw[Nat.testBit_lt_two_pow hl]
   simp
theorem andNotM(x:Nat)(h:x<9223372036854775808):bits .andNot .u64 (x:Int) 9218868437227405312=((x%4503599627370496:Nat):Int):=by
 have:=u64_andNot_nat x 9218868437227405312 (by omega) (by omega)
 rw[show((9218868437227405312:Nat):Int)=9218868437227405312 from rfl] at this
 rw[this,show(18446744073709551615-9218868437227405312:Nat)=9227875636482146303 from rfl,cut_mant x h]
theorem orM(m e:Nat)(h:m<4503599627370496)(he:e<2048):bits .or .u64 (m:Int) ((e*4503599627370496:Nat):Int)=((e*4503599627370496+m:Nat):Int):=by
 rw[u64_or_nat m (e*4503599627370496) (by omega) (by omega)]
 congr 1
 rw[Nat.or_comm,show e*4503599627370496=e <<< 52 from by rw[Nat.shiftLeft_eq]]
 exact(Nat.shiftLeft_add_eq_or_of_lt h e).symm
theorem and2047I(e:Nat)(h:e<2048):bits .and .i64 (e:Int) 2047=(e:Int):=by
 have:∀j:Fin 2048,bits .and .i64 ((j.1:Nat):Int) 2047=((j.1:Nat):Int):=by decide+kernel
 exact this ⟨e,h⟩
theorem fnt_pos{E m:Nat}(h2:E<=2046)(hm:m<4503599627370496):Fnt (E*4503599627370496+m):=⟨by omega,by rw[Nat.mod_eq_of_lt (by omega)];omega⟩
theorem iv_pos{E m:Nat}(h1:1<=E)(h2:E<=2046)(hm:m<4503599627370496):iv (E*4503599627370496+m)=((4503599627370496+m:Nat):Int)*2^(E-1):=by
 have:=@iv_word false (E-1) (4503599627370496+m) (by omega) (by omega) (.inr (by omega))
 have e:D.word false ((E-1)*2^52+(4503599627370496+m))=E*4503599627370496+m:=by
  unfold Ieee.Format.word
  simp only[Bool.false_eq_true,if_false]
  omega
 rw[e] at this
 rw[this]
 simp
theorem iv_zero:iv 0=0:=by decide+kernel
theorem iv_pos_gt{E m:Nat}(h1:1<=E)(h2:E<=2046)(hm:m<4503599627370496):0<iv (E*4503599627370496+m):=by
 rw[iv_pos h1 h2 hm]
 exact Int.mul_pos (by omega) (Int.pow_pos (by decide))
theorem ord_eq0{E m:Nat}(h1:1<=E)(h2:E<=2046)(hm:m<4503599627370496):(FloatKind.f64.format.order (E*4503599627370496+m) 0==some Ordering.eq)=false:=by
 show(D.order _ 0==some Ordering.eq)=false
 rw[order_spec (fnt_pos h2 hm) (by decide),iv_zero]
 have:=iv_pos_gt h1 h2 hm
 have e:compare (iv (E*4503599627370496+m)) 0=.gt:=by rw[Int.compare_eq_gt];exact this
 rw[e]
 rfl
theorem ord_self{x:Nat}(h:Fnt x):(FloatKind.f64.format.order x x != some Ordering.eq)=false:=by
 show(D.order x x != some Ordering.eq)=false
 rw[order_spec h h]
 have e:compare (iv x) (iv x)=.eq:=by rw[Int.compare_eq_eq]
 rw[e]
 rfl
theorem ord_max{E m:Nat}(h1:1<=E)(h2:E<=2046)(hm:m<4503599627370496):(FloatKind.f64.format.order (E*4503599627370496+m) 9218868437227405311==some Ordering.gt)=false:=by
 show(D.order _ _==some Ordering.gt)=false
 have hM:(9218868437227405311:Nat)=2046*4503599627370496+4503599627370495:=by decide
 rw[order_spec (fnt_pos h2 hm) (by rw[hM];exact fnt_pos (by omega) (by omega)),hM,iv_pos h1 h2 hm,iv_pos (by omega) (by omega) (by omega)]
 obtain⟨X,hX⟩:∃X,2046-1=X:=⟨_,rfl⟩
 rw[hX]
 have hp:(2:Int)^(E-1)<=2^X:=by
  have:=Nat.pow_le_pow_right (show 0<2 by decide) (show E-1<=X by omega)
  exact_mod_cast this
 have hl:((4503599627370496+m:Nat):Int)*2^(E-1)<=((4503599627370496+4503599627370495:Nat):Int)*2^X:=Int.mul_le_mul (by omega) hp (Int.le_of_lt (Int.pow_pos (by decide))) (by omega)
 generalize ((4503599627370496+m:Nat):Int)*2^(E-1)=a at hl|-
 generalize ((4503599627370496+4503599627370495:Nat):Int)*2^X=b at hl|-
 have:compare a b≠.gt:=by rw[Ne,Int.compare_eq_gt];omega
 cases hc:compare a b
 ·rfl
 ·rfl
 ·exact absurd hc this
theorem ord_min{E m:Nat}(h1:1<=E)(h2:E<=2046)(hm:m<4503599627370496):(FloatKind.f64.format.order (E*4503599627370496+m) 4503599627370496==some Ordering.lt)=false:=by
 show(D.order _ _==some Ordering.lt)=false
 have hM:(4503599627370496:Nat)=1*4503599627370496+0:=by decide
 have e2:iv 4503599627370496=((4503599627370496+0:Nat):Int)*2^(1-1):=by
  have:=@iv_pos 1 0 (by omega) (by omega) (by omega)
  exact this
 rw[order_spec (fnt_pos h2 hm) (by decide),e2,iv_pos h1 h2 hm]
 have hp:(1:Int)<=2^(E-1):=by
  have:=Nat.one_le_two_pow (n:=E-1)
  exact_mod_cast this
 have hl:((4503599627370496+0:Nat):Int)*2^(1-1)<=((4503599627370496+m:Nat):Int)*2^(E-1):=Int.mul_le_mul (by omega) (by simpa using hp) (by decide) (by omega)
 generalize ((4503599627370496+m:Nat):Int)*2^(E-1)=a at hl|-
 generalize ((4503599627370496+0:Nat):Int)*2^(1-1)=b at hl|-
 have:compare a b≠.lt:=by rw[Ne,Int.compare_eq_lt];omega
 cases hc:compare a b
 ·exact absurd hc this
 ·rfl
 ·rfl
theorem iv_low{r l q:Nat}(h:r<9218868437227405312)(hl:l=r/4503599627370496-1)(hq:q=r-l*4503599627370496):iv r=(q:Int)*2^l:=by
 have:=@iv_word false l q (by omega) (by omega) (by omega)
 have e:D.word false (l*2^52+q)=r:=by
  unfold Ieee.Format.word
  simp only[Bool.false_eq_true,if_false]
  omega
 rw[e] at this
 rw[this]
 simp
theorem iv_next{r:Nat}(h:r+1<9218868437227405312):iv r<iv (r+1):=by
 rw[iv_low (show r<9218868437227405312 by omega) rfl rfl,iv_low h rfl rfl]
 obtain⟨l,hl⟩:∃l,r/4503599627370496-1=l:=⟨_,rfl⟩
 rw[hl]
 have hp:(0:Int)<2^l:=Int.pow_pos (by decide)
 by_cases e:(r+1)/4503599627370496-1=l
 ·rw[e]
  refine Int.mul_lt_mul_of_pos_right ?_ hp
  omega
 ·have e2:(r+1)/4503599627370496-1=l+1:=by omega
  rw[e2,Int.pow_succ]
  have h1:((r-l*4503599627370496:Nat):Int)<9007199254740992:=by omega
  have h2:((r+1-(l+1)*4503599627370496:Nat):Int)=4503599627370496:=by omega
  rw[h2]
  generalize (2:Int)^l=P at hp|-
  have h3:=Int.mul_lt_mul_of_pos_right h1 hp
  omega
theorem iv_grow{r:Nat}:∀d,r+d<9218868437227405312->0<d->iv r<iv (r+d)
 |0,_,h0=>absurd h0 (by decide)
 |1,h,_=>iv_next h
 |d+2,h,_=>Int.lt_trans (iv_grow (d+1) (by omega) (by omega)) (iv_next (r:=r+(d+1)) h)
theorem iv_inj{r s:Nat}(hr:r<9218868437227405312)(hs:s<9218868437227405312)(h:iv r=iv s):r=s:=by
 rcases Nat.lt_trichotomy r s with h1|h1|h1
 ·have:=iv_grow (r:=r) (s-r) (by omega) (by omega)
  rw[show r+(s-r)=s by omega] at this
  omega
 ·exact h1
 ·have:=iv_grow (r:=s) (r-s) (by omega) (by omega)
  rw[show s+(r-s)=r by omega] at this
  omega
theorem iv_negw{r:Nat}(h:r<9218868437227405312):iv (9223372036854775808+r)<=0:=by
 have:=@iv_word true (r/4503599627370496-1) (r-(r/4503599627370496-1)*4503599627370496) (by omega) (by omega) (by omega)
 have e:D.word true ((r/4503599627370496-1)*2^52+(r-(r/4503599627370496-1)*4503599627370496))=9223372036854775808+r:=by
  unfold Ieee.Format.word
  rw[D_sign]
  simp only[if_true]
  omega
 rw[e] at this
 rw[this]
 have hp:(0:Int)<2^(r/4503599627370496-1):=Int.pow_pos (by decide)
 have hq:(0:Int)<=((r-(r/4503599627370496-1)*4503599627370496:Nat):Int):=by omega
 have:=Int.mul_nonneg hq (Int.le_of_lt hp)
 simp only[if_true]
 rw[Int.mul_assoc,Int.neg_mul,Int.one_mul]
 omega
theorem fnt_eq{z b:Nat}(hz:Fnt z)(hb:b<9218868437227405312)(h:iv z=iv b)(h0:0<iv b):z=b:=by
 obtain⟨h1,h2⟩:=hz
 by_cases hs:z<9223372036854775808
 ·exact iv_inj (by omega) hb h
 ·have:=iv_negw (r:=z-9223372036854775808) (by omega)
  rw[show 9223372036854775808+(z-9223372036854775808)=z by omega] at this
  omega
theorem mul_one_pos{E m:Nat}(h1:1<=E)(h2':E<=2045)(hm:m<4503599627370496):fmul 4607182418800017408 (E*4503599627370496+m)=some (E*4503599627370496+m):=by
 have h2:E<=2046:=by omega
 have hf:=fnt_pos h2 hm
 have e1:iv 4607182418800017408=2^U:=by
  have:=@iv_pos 1023 0 (by omega) (by omega) (by omega)
  rw[show 1023*4503599627370496+0=4607182418800017408 from rfl] at this
  rw[this,U_eq,show(1074:Nat)=52+(1023-1) from rfl,Int.pow_add]
  rfl
 have hb:(iv (E*4503599627370496+m)).natAbs<2^Bt:=by
  rw[iv_pos h1 h2 hm,Int.natAbs_mul,Int.natAbs_natCast,Int.natAbs_pow]
  have a:4503599627370496+m<2^53:=by omega
  have c:(2:Int).natAbs^(E-1)<=2^(Bt-53):=Nat.pow_le_pow_right (by decide) (by have:=Bt_eq;omega)
  have d:2^53*2^(Bt-53)=2^Bt:=by rw[<-Nat.pow_add];congr 1;have:=Bt_eq;omega
  rw[<-d]
  exact Nat.mul_lt_mul_of_lt_of_le a c (Nat.two_pow_pos _)
 obtain⟨z,z1,z2,z3⟩:=fmul_whole (x:=4607182418800017408) (p:=iv (E*4503599627370496+m)) (by decide) hf (by rw[e1,Int.mul_comm]) hb
 rw[(rep_iv hf).rnd_eq] at z3
 rw[z1,fnt_eq z2 (by omega) z3 (iv_pos_gt h1 h2 hm)]
theorem hmulF{x y r:Nat}(h:fmul x y=some r):∀t w,(binOp .mul t (.float .f64 x) (.float .f64 y)).run Tryz.prog w=.ok (.float .f64 r) w:=λt w=>run_float_arith w .mul t .f64 x y r h
theorem ldexp_pos(E m:Nat)(k:Int)(w:World)(h1:1<=E)(h2:E<=2046)(hm:m<4503599627370496)(k1:1<=(E:Int)+k)(k2:(E:Int)+k<=2045):
  Calls Tryz.prog 151 #[.float .f64 (E*4503599627370496+m:Nat),.int .i64 k] w λz w'=>z=.returned (.float .f64 (((E:Int)+k).toNat*4503599627370496+m:Nat))/\w=w':=by
 have hbits:=run_bitsF
 have hfrom:=run_fromF
 obtain⟨F,hF⟩:∃F:Nat,(E:Int)+k=F:=⟨((E:Int)+k).toNat,by omega⟩
 have hF1:1<=F:=by omega
 have hF2:F<=2045:=by omega
 rw[hF,Int.toNat_natCast]
 have hx:E*4503599627370496+m<9223372036854775808:=by omega
 have c0:=ord_eq0 h1 h2 hm
 have C1:=aZ (λw=>isnanF_any (E*4503599627370496+m) _ w (ord_self (fnt_pos h2 hm)))
 have C2:=aZ (λw=>isinfF_any (E*4503599627370496+m) false w (by omega) (by rw[Nat.mod_eq_of_lt hx];exact ord_max h1 h2 hm))
 have C3:=aZ (λw=>normF_any (E*4503599627370496+m) w (by omega) (by rw[Nat.mod_eq_of_lt hx];exact ord_min h1 h2 hm))
 have a1:=and2047F (E*4503599627370496+m) (by omega)
 have a2:=andNotM (E*4503599627370496+m) hx
 have e1:(E*4503599627370496+m)/4503599627370496%2048=E:=by omega
 have e2:(E*4503599627370496+m)%4503599627370496=m:=by omega
 rw[e1] at a1
 rw[e2] at a2
 have a3:=orM m F hm (by omega)
 have hmm:=hmulF (mul_one_pos hF1 hF2 hm)
 obtain⟨x,hxx⟩:∃x,E*4503599627370496+m=x:=⟨_,rfl⟩
 rw[hxx] at c0 C1 C2 C3 a1 a2|-
 obtain⟨k1',hk1'⟩:∃k1',wrap64 k=k1':=⟨_,rfl⟩
 have hkk:k1'=k:=by rw[<-hk1'];unfold wrap64;omega
 obtain⟨q1,hq1⟩:∃q1,(x:Int)/4503599627370496=q1:=⟨_,rfl⟩
 have hqq:q1=E:=by rw[<-hq1,<-hxx];omega
 obtain⟨q2,hq2⟩:∃q2,wrap64 q1=q2:=⟨_,rfl⟩
 have hqq2:q2=E:=by rw[<-hq2,hqq];unfold wrap64;omega
 obtain⟨q3,hq3⟩:∃q3,bits .and .i64 q2 2047=q3:=⟨_,rfl⟩
 have hqq3:q3=E:=by rw[<-hq3,hqq2];exact and2047I E (by omega)
 obtain⟨q4,hq4⟩:∃q4,wrap64 (q3-1023)=q4:=⟨_,rfl⟩
 have hqq4:q4=(E:Int)-1023:=by rw[<-hq4,hqq3];unfold wrap64;omega
 obtain⟨g,hg⟩:∃g,wrap64 (k1'+q4)=g:=⟨_,rfl⟩
 have hgg:g=(F:Int)-1023:=by rw[<-hg,hkk,hqq4];unfold wrap64;omega
 have g1:¬g< -1075:=by omega
 have g2:¬g>1023:=by omega
 have g3:¬g< -1022:=by omega
 have hor:bits .or .u64 (m:Int) ((g+1023)*4503599627370496)=((F*4503599627370496+m:Nat):Int):=by rw[<-a3];congr 1;omega
 have ht:((F*4503599627370496+m:Nat):Int).toNat=F*4503599627370496+m:=Int.toNat_natCast _
 obtain⟨R,hR⟩:∃R,F*4503599627370496+m=R:=⟨_,rfl⟩
 rw[hR] at hmm hor ht|-
 clear e1 e2 hF hxx k1 k2 hkk hqq hqq2 hqq3 hqq4 hgg a1 a3 hR
 go_enter Tryz.func151,Tryz.ntmps151
 go_wp2_with fail
 refine(C2.out _).mono ?_
 rintro z w' ⟨rfl,rfl⟩
 go_wp2_with fail
 refine(C1.out _).mono ?_
 rintro z w' ⟨rfl,rfl⟩
 go_wp2_with fail
 refine(C3.out _).mono ?_
 rintro z w' ⟨rfl,rfl⟩
 go_wp2_with (first|simp only[hmm]|fail)
 go_ret
 exact⟨rfl,rfl⟩
theorem ldexp_zero(k:Int)(w:World):Calls Tryz.prog 151 #[.float .f64 0,.int .i64 k] w λz w'=>z=.returned (.float .f64 0)/\w=w':=by
 have c0:(FloatKind.f64.format.order 0 0==some Ordering.eq)=true:=by decide+kernel
 go_enter Tryz.func151,Tryz.ntmps151
 go_wp2
 go_ret
 exact⟨rfl,rfl⟩
theorem Ldexp_of(x y:Nat)(k:Int)(w:World)(h:∀w,Calls Tryz.prog 151 #[.float .f64 x,.int .i64 k] w λz w'=>z=.returned (.float .f64 y)/\w=w'):
  Calls Tryz.prog 117 #[.float .f64 x,.int .i64 k] w λz w'=>z=.returned (.float .f64 y)/\w=w':=by
 have H:=aZ h
 clear h
 go_enter Tryz.func117,Tryz.ntmps117
 go_wp2_with fail
 refine(H.out _).mono ?_
 rintro z w' ⟨rfl,rfl⟩
 go_wp2
 go_ret
 exact⟨rfl,rfl⟩
end Go.Proofs.YtmgfaeineklccaaGreat
