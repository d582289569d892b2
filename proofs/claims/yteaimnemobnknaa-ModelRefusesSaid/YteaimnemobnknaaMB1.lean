/- How math/bits.Div64 divides: the plain law. -/
import Derived.Test.YteaimnemobnknaaX0
import Derived.Test.YteaimnemobnknaaMW1
import Derived.ProofKit
set_option linter.unusedSimpArgs false
set_option linter.unusedVariables false
set_option maxRecDepth 100000
set_option maxHeartbeats 4000000
namespace Go.Proofs.Yteaimnemobnknaa
structure Guess(y1 y0 U u:Nat)(q rh:Nat):Prop where
 sum:q*y1+rh=U
 ge:(U*4294967296+u)/(y1*4294967296+y0)<=q
theorem guess_start{y1 y0 U u:Nat}(hy1:2147483648<=y1)(hu:u<4294967296):Guess y1 y0 U u (U/y1) (U%y1):=by
 refine⟨by rw[Nat.mul_comm];exact Nat.div_add_mod U y1,?_⟩
 have h1:U<(U/y1+1)*y1:=by rw[Nat.mul_comm];exact Nat.lt_mul_div_succ U (by omega)
 refine Nat.le_of_lt_succ ((Nat.div_lt_iff_lt_mul (by omega)).2 ?_)
 have h2:(U/y1+1)*(y1*4294967296)<=(U/y1+1)*(y1*4294967296+y0):=Nat.mul_le_mul_left _ (by omega)
 rw[<-Nat.mul_assoc] at h2
 show _<(U/y1+1)*_
 omega
theorem guess_le{y1 y0 U:Nat}(hy1:2147483648<=y1)(hy0:y0<4294967296)(hU:U<y1*4294967296+y0):U/y1<=4294967297:=by
 refine Nat.le_of_lt_succ ((Nat.div_lt_iff_lt_mul (by omega)).2 ?_)
 omega
theorem guess_down{y1 y0 U u q rh:Nat}(hy1:2147483648<=y1)(hu:u<4294967296)(hU:U<y1*4294967296+y0)(h:Guess y1 y0 U u q rh)(ht:4294967296<=q\/4294967296*rh+u<q*y0):1<=q/\Guess y1 y0 U u (q-1) (rh+y1):=by
 have hlt:(U*4294967296+u)/(y1*4294967296+y0)<q:=by
  rcases ht with h1|h1
  ·refine Nat.lt_of_lt_of_le ((Nat.div_lt_iff_lt_mul (by omega)).2 ?_) h1
   omega
  ·refine(Nat.div_lt_iff_lt_mul (by omega)).2 ?_
   have hs:=h.sum
   have:q*(y1*4294967296+y0)=q*y1*4294967296+q*y0:=by rw[Nat.mul_add,Nat.mul_assoc]
   rw[this]
   generalize q*y1=a at*
   generalize q*y0=c at*
   omega
 have hq0:0<q:=Nat.lt_of_le_of_lt (Nat.zero_le _) hlt
 obtain⟨p,rfl⟩:∃p,q=p+1:=⟨q-1,by clear hlt;omega⟩
 refine⟨hq0,⟨?_,Nat.le_of_lt_succ hlt⟩⟩
 clear hlt
 have hs:=h.sum
 rw[Nat.succ_mul] at hs
 show p*y1+(rh+y1)=U
 omega
theorem guess_fit{y1 y0 U u q rh:Nat}(hy1:2147483648<=y1)(h:Guess y1 y0 U u q rh)(ht:q*y0<=4294967296*rh+u):q=(U*4294967296+u)/(y1*4294967296+y0):=by
 refine Nat.le_antisymm ((Nat.le_div_iff_mul_le (by omega)).2 ?_) h.ge
 have hs:=h.sum
 have:q*(y1*4294967296+y0)=q*y1*4294967296+q*y0:=by rw[Nat.mul_add,Nat.mul_assoc]
 rw[this]
 generalize q*y1=a at*
 generalize q*y0=c at*
 omega
theorem guess_far{y1 y0 U u q rh:Nat}(hy1:2147483648<=y1)(hy0:y0<4294967296)(h:Guess y1 y0 U u q rh)(hq:q<=4294967296)(hr:4294967296<=rh):q=(U*4294967296+u)/(y1*4294967296+y0):=by
 refine guess_fit hy1 h ?_
 have:q*y0<=4294967296*4294967295:=Nat.mul_le_mul hq (by omega)
 omega
theorem two_digits{y U u1 u0:Nat}(hy:1<=y):
  (U*4294967296+u1)/y*4294967296+((U*4294967296+u1)%y*4294967296+u0)/y=(U*18446744073709551616+u1*4294967296+u0)/y/\((U*4294967296+u1)%y*4294967296+u0)%y=(U*18446744073709551616+u1*4294967296+u0)%y:=by
 have e:U*18446744073709551616+u1*4294967296+u0=y*((U*4294967296+u1)/y*4294967296)+((U*4294967296+u1)%y*4294967296+u0):=by
  have:=Nat.div_add_mod (U*4294967296+u1) y
  rw[<-Nat.mul_assoc]
  omega
 rw[e,Nat.mul_add_div (by omega),Nat.mul_add_mod]
 exact⟨rfl,rfl⟩
theorem shift_div{N y s:Nat}(hy:1<=y):N*2^s/(y*2^s)=N/y/\N*2^s%(y*2^s)=N%y*2^s:=⟨Nat.mul_div_mul_right _ _ (Nat.two_pow_pos s),by rw[Nat.mul_mod_mul_right]⟩
def LenOf(x n:Nat):Prop:=1<=n/\n<=64/\2^(n-1)<=x/\x<2^n
theorem div_set{hi lo y n:Nat}(h:LenOf y n)(hy:hi<y)(hy2:y<9223372036854775808)(hlo:lo<18446744073709551616):
  ∃s,64-n=s/\s+n=64/\1<=s/\9223372036854775808<=y*2^s/\y*2^s<18446744073709551616/\lo/2^n<2^s/\hi*2^s+lo/2^n<y*2^s/\
   (hi*2^s+lo/2^n)*18446744073709551616+lo*2^s%18446744073709551616=(hi*18446744073709551616+lo)*2^s:=by
 obtain⟨h1,h2,h3,h4⟩:=h
 have hn:n-1<63:=(Nat.pow_lt_pow_iff_right (a:=2) (by omega)).1 (show 2^(n-1)<2^63 from Nat.lt_of_le_of_lt h3 hy2)
 obtain⟨s,hs⟩:∃s,64-n=s:=⟨_,rfl⟩
 have hsn:s+n=64:=by omega
 have eP:2^n*2^s=18446744073709551616:=by rw[<-Nat.pow_add,show n+s=64 from by omega]
 have eQ:2^(n-1)*2^s=9223372036854775808:=by rw[<-Nat.pow_add,show n-1+s=63 from by omega]
 have hS:=Nat.two_pow_pos s
 have hP:=Nat.two_pow_pos n
 refine⟨s,hs,hsn,by omega,?_,?_,?_,?_,?_⟩
 all_goals generalize 2^s=S at*
 all_goals generalize 2^n=P at*
 ·rw[<-eQ];exact Nat.mul_le_mul_right S h3
 ·rw[<-eP];exact Nat.mul_lt_mul_of_pos_right h4 hS
 ·exact Nat.div_lt_of_lt_mul (by rw[eP];exact hlo)
 ·have h5:lo/P<S:=Nat.div_lt_of_lt_mul (by rw[eP];exact hlo)
  have h6:(hi+1)*S<=y*S:=Nat.mul_le_mul_right S hy
  rw[Nat.succ_mul] at h6
  omega
 ·have h5:=Nat.div_add_mod lo P
  have h6:=Nat.mod_lt lo hP
  generalize lo/P=q at*
  generalize lo%P=r at*
  have h7:lo*S=q*18446744073709551616+r*S:=by rw[<-h5,Nat.add_mul,Nat.mul_comm P q,Nat.mul_assoc,eP]
  have h8:r*S<18446744073709551616:=by rw[<-eP];exact Nat.mul_lt_mul_of_pos_right h6 hS
  rw[Nat.add_mul,h7,Nat.add_mul,Nat.mul_right_comm]
  generalize r*S=c at*
  generalize hi*S=d at*
  omega
end Go.Proofs.Yteaimnemobnknaa
namespace Go.Proofs.Yteaimnemobnknaa
open Go.RowKit Go.Lib
theorem LenOf.up{x n k:Nat}(h:LenOf (x/2^k) n)(hk:n+k<=64):LenOf x (n+k):=by
 obtain⟨h1,h2,h3,h4⟩:=h
 refine⟨by omega,hk,?_,?_⟩
 ·rw[show n+k-1=n-1+k from by omega,Nat.pow_add]
  exact(Nat.le_div_iff_mul_le (Nat.two_pow_pos k)).1 h3
 ·rw[Nat.pow_add]
  exact(Nat.div_lt_iff_lt_mul (Nat.two_pow_pos k)).1 h4
theorem tab_all:∀k:Fin 256,1<=k.1->1<=(({data:=#[0,1,2,2,3,3,3,3,4,4,4,4,4,4,4,4,5,5,5,5,5,5,5,5,5,5,5,5,5,5,5,5,6,6,6,6,6,6,6,6,6,6,6,6,6,6,6,6,6,6,6,6,6,6,6,6,6,6,6,6,6,6,6,6,7,7,7,7,7,7,7,7,7,7,7,7,7,7,7,7,7,7,7,7,7,7,7,7,7,7,7,7,7,7,7,7,7,7,7,7,7,7,7,7,7,7,7,7,7,7,7,7,7,7,7,7,7,7,7,7,7,7,7,7,7,7,7,7,8,8,8,8,8,8,8,8,8,8,8,8,8,8,8,8,8,8,8,8,8,8,8,8,8,8,8,8,8,8,8,8,8,8,8,8,8,8,8,8,8,8,8,8,8,8,8,8,8,8,8,8,8,8,8,8,8,8,8,8,8,8,8,8,8,8,8,8,8,8,8,8,8,8,8,8,8,8,8,8,8,8,8,8,8,8,8,8,8,8,8,8,8,8,8,8,8,8,8,8,8,8,8,8,8,8,8,8,8,8,8,8,8,8,8,8,8,8,8,8,8,8,8,8,8,8,8,8]}:ByteArray)[k.1]'(k.2)).toNat/\(({data:=#[0,1,2,2,3,3,3,3,4,4,4,4,4,4,4,4,5,5,5,5,5,5,5,5,5,5,5,5,5,5,5,5,6,6,6,6,6,6,6,6,6,6,6,6,6,6,6,6,6,6,6,6,6,6,6,6,6,6,6,6,6,6,6,6,7,7,7,7,7,7,7,7,7,7,7,7,7,7,7,7,7,7,7,7,7,7,7,7,7,7,7,7,7,7,7,7,7,7,7,7,7,7,7,7,7,7,7,7,7,7,7,7,7,7,7,7,7,7,7,7,7,7,7,7,7,7,7,7,8,8,8,8,8,8,8,8,8,8,8,8,8,8,8,8,8,8,8,8,8,8,8,8,8,8,8,8,8,8,8,8,8,8,8,8,8,8,8,8,8,8,8,8,8,8,8,8,8,8,8,8,8,8,8,8,8,8,8,8,8,8,8,8,8,8,8,8,8,8,8,8,8,8,8,8,8,8,8,8,8,8,8,8,8,8,8,8,8,8,8,8,8,8,8,8,8,8,8,8,8,8,8,8,8,8,8,8,8,8,8,8,8,8,8,8,8,8,8,8,8,8,8,8,8,8,8,8]}:ByteArray)[k.1]'(k.2)).toNat<=8/\2^((({data:=#[0,1,2,2,3,3,3,3,4,4,4,4,4,4,4,4,5,5,5,5,5,5,5,5,5,5,5,5,5,5,5,5,6,6,6,6,6,6,6,6,6,6,6,6,6,6,6,6,6,6,6,6,6,6,6,6,6,6,6,6,6,6,6,6,7,7,7,7,7,7,7,7,7,7,7,7,7,7,7,7,7,7,7,7,7,7,7,7,7,7,7,7,7,7,7,7,7,7,7,7,7,7,7,7,7,7,7,7,7,7,7,7,7,7,7,7,7,7,7,7,7,7,7,7,7,7,7,7,8,8,8,8,8,8,8,8,8,8,8,8,8,8,8,8,8,8,8,8,8,8,8,8,8,8,8,8,8,8,8,8,8,8,8,8,8,8,8,8,8,8,8,8,8,8,8,8,8,8,8,8,8,8,8,8,8,8,8,8,8,8,8,8,8,8,8,8,8,8,8,8,8,8,8,8,8,8,8,8,8,8,8,8,8,8,8,8,8,8,8,8,8,8,8,8,8,8,8,8,8,8,8,8,8,8,8,8,8,8,8,8,8,8,8,8,8,8,8,8,8,8,8,8,8,8,8,8]}:ByteArray)[k.1]'(k.2)).toNat-1)<=k.1/\k.1<2^(({data:=#[0,1,2,2,3,3,3,3,4,4,4,4,4,4,4,4,5,5,5,5,5,5,5,5,5,5,5,5,5,5,5,5,6,6,6,6,6,6,6,6,6,6,6,6,6,6,6,6,6,6,6,6,6,6,6,6,6,6,6,6,6,6,6,6,7,7,7,7,7,7,7,7,7,7,7,7,7,7,7,7,7,7,7,7,7,7,7,7,7,7,7,7,7,7,7,7,7,7,7,7,7,7,7,7,7,7,7,7,7,7,7,7,7,7,7,7,7,7,7,7,7,7,7,7,7,7,7,7,8,8,8,8,8,8,8,8,8,8,8,8,8,8,8,8,8,8,8,8,8,8,8,8,8,8,8,8,8,8,8,8,8,8,8,8,8,8,8,8,8,8,8,8,8,8,8,8,8,8,8,8,8,8,8,8,8,8,8,8,8,8,8,8,8,8,8,8,8,8,8,8,8,8,8,8,8,8,8,8,8,8,8,8,8,8,8,8,8,8,8,8,8,8,8,8,8,8,8,8,8,8,8,8,8,8,8,8,8,8,8,8,8,8,8,8,8,8,8,8,8,8,8,8,8,8,8,8]}:ByteArray)[k.1]'(k.2)).toNat:=by decide+kernel
theorem tab_ok(k:Nat)(h1:1<=k)(h2:k<256)(i:Nat)(hi:i=k)(h:i<({data:=#[0,1,2,2,3,3,3,3,4,4,4,4,4,4,4,4,5,5,5,5,5,5,5,5,5,5,5,5,5,5,5,5,6,6,6,6,6,6,6,6,6,6,6,6,6,6,6,6,6,6,6,6,6,6,6,6,6,6,6,6,6,6,6,6,7,7,7,7,7,7,7,7,7,7,7,7,7,7,7,7,7,7,7,7,7,7,7,7,7,7,7,7,7,7,7,7,7,7,7,7,7,7,7,7,7,7,7,7,7,7,7,7,7,7,7,7,7,7,7,7,7,7,7,7,7,7,7,7,8,8,8,8,8,8,8,8,8,8,8,8,8,8,8,8,8,8,8,8,8,8,8,8,8,8,8,8,8,8,8,8,8,8,8,8,8,8,8,8,8,8,8,8,8,8,8,8,8,8,8,8,8,8,8,8,8,8,8,8,8,8,8,8,8,8,8,8,8,8,8,8,8,8,8,8,8,8,8,8,8,8,8,8,8,8,8,8,8,8,8,8,8,8,8,8,8,8,8,8,8,8,8,8,8,8,8,8,8,8,8,8,8,8,8,8,8,8,8,8,8,8,8,8,8,8,8,8]}:ByteArray).size):1<=(({data:=#[0,1,2,2,3,3,3,3,4,4,4,4,4,4,4,4,5,5,5,5,5,5,5,5,5,5,5,5,5,5,5,5,6,6,6,6,6,6,6,6,6,6,6,6,6,6,6,6,6,6,6,6,6,6,6,6,6,6,6,6,6,6,6,6,7,7,7,7,7,7,7,7,7,7,7,7,7,7,7,7,7,7,7,7,7,7,7,7,7,7,7,7,7,7,7,7,7,7,7,7,7,7,7,7,7,7,7,7,7,7,7,7,7,7,7,7,7,7,7,7,7,7,7,7,7,7,7,7,8,8,8,8,8,8,8,8,8,8,8,8,8,8,8,8,8,8,8,8,8,8,8,8,8,8,8,8,8,8,8,8,8,8,8,8,8,8,8,8,8,8,8,8,8,8,8,8,8,8,8,8,8,8,8,8,8,8,8,8,8,8,8,8,8,8,8,8,8,8,8,8,8,8,8,8,8,8,8,8,8,8,8,8,8,8,8,8,8,8,8,8,8,8,8,8,8,8,8,8,8,8,8,8,8,8,8,8,8,8,8,8,8,8,8,8,8,8,8,8,8,8,8,8,8,8,8,8]}:ByteArray)[i]'h).toNat/\(({data:=#[0,1,2,2,3,3,3,3,4,4,4,4,4,4,4,4,5,5,5,5,5,5,5,5,5,5,5,5,5,5,5,5,6,6,6,6,6,6,6,6,6,6,6,6,6,6,6,6,6,6,6,6,6,6,6,6,6,6,6,6,6,6,6,6,7,7,7,7,7,7,7,7,7,7,7,7,7,7,7,7,7,7,7,7,7,7,7,7,7,7,7,7,7,7,7,7,7,7,7,7,7,7,7,7,7,7,7,7,7,7,7,7,7,7,7,7,7,7,7,7,7,7,7,7,7,7,7,7,8,8,8,8,8,8,8,8,8,8,8,8,8,8,8,8,8,8,8,8,8,8,8,8,8,8,8,8,8,8,8,8,8,8,8,8,8,8,8,8,8,8,8,8,8,8,8,8,8,8,8,8,8,8,8,8,8,8,8,8,8,8,8,8,8,8,8,8,8,8,8,8,8,8,8,8,8,8,8,8,8,8,8,8,8,8,8,8,8,8,8,8,8,8,8,8,8,8,8,8,8,8,8,8,8,8,8,8,8,8,8,8,8,8,8,8,8,8,8,8,8,8,8,8,8,8,8,8]}:ByteArray)[i]'h).toNat<=8/\2^((({data:=#[0,1,2,2,3,3,3,3,4,4,4,4,4,4,4,4,5,5,5,5,5,5,5,5,5,5,5,5,5,5,5,5,6,6,6,6,6,6,6,6,6,6,6,6,6,6,6,6,6,6,6,6,6,6,6,6,6,6,6,6,6,6,6,6,7,7,7,7,7,7,7,7,7,7,7,7,7,7,7,7,7,7,7,7,7,7,7,7,7,7,7,7,7,7,7,7,7,7,7,7,7,7,7,7,7,7,7,7,7,7,7,7,7,7,7,7,7,7,7,7,7,7,7,7,7,7,7,7,8,8,8,8,8,8,8,8,8,8,8,8,8,8,8,8,8,8,8,8,8,8,8,8,8,8,8,8,8,8,8,8,8,8,8,8,8,8,8,8,8,8,8,8,8,8,8,8,8,8,8,8,8,8,8,8,8,8,8,8,8,8,8,8,8,8,8,8,8,8,8,8,8,8,8,8,8,8,8,8,8,8,8,8,8,8,8,8,8,8,8,8,8,8,8,8,8,8,8,8,8,8,8,8,8,8,8,8,8,8,8,8,8,8,8,8,8,8,8,8,8,8,8,8,8,8,8,8]}:ByteArray)[i]'h).toNat-1)<=k/\k<2^(({data:=#[0,1,2,2,3,3,3,3,4,4,4,4,4,4,4,4,5,5,5,5,5,5,5,5,5,5,5,5,5,5,5,5,6,6,6,6,6,6,6,6,6,6,6,6,6,6,6,6,6,6,6,6,6,6,6,6,6,6,6,6,6,6,6,6,7,7,7,7,7,7,7,7,7,7,7,7,7,7,7,7,7,7,7,7,7,7,7,7,7,7,7,7,7,7,7,7,7,7,7,7,7,7,7,7,7,7,7,7,7,7,7,7,7,7,7,7,7,7,7,7,7,7,7,7,7,7,7,7,8,8,8,8,8,8,8,8,8,8,8,8,8,8,8,8,8,8,8,8,8,8,8,8,8,8,8,8,8,8,8,8,8,8,8,8,8,8,8,8,8,8,8,8,8,8,8,8,8,8,8,8,8,8,8,8,8,8,8,8,8,8,8,8,8,8,8,8,8,8,8,8,8,8,8,8,8,8,8,8,8,8,8,8,8,8,8,8,8,8,8,8,8,8,8,8,8,8,8,8,8,8,8,8,8,8,8,8,8,8,8,8,8,8,8,8,8,8,8,8,8,8,8,8,8,8,8,8]}:ByteArray)[i]'h).toNat:=by
 subst hi
 exact tab_all ⟨i,h2⟩ h1
theorem len_end{x n y T:Nat}(hn:n<=56)(hy:y=x/2^n)(h:1<=T/\T<=8/\2^(T-1)<=y/\y<2^T):∃m:Nat,wrap64 ((n:Int)+wrap64 (T:Int))=(m:Int)/\LenOf x m:=by
 have e1:wrap64 (T:Int)=T:=by rw[wrap64];omega
 have e2:wrap64 ((n:Int)+(T:Int))=((T+n:Nat):Int):=by rw[wrap64];omega
 refine⟨T+n,by rw[e1,e2],LenOf.up ?_ (by omega)⟩
 rw[<-hy]
 exact⟨h.1,by omega,h.2.2⟩
theorem len64_any(x:Nat)(hx1:1<=x)(hx:x<18446744073709551616)(w:World):
  Calls Try.prog 131 #[.int .u64 x] w λe w'=>∃n:Nat,e=.returned (.int .i64 n)/\LenOf x n/\w=w':=by
 go_enter Try.func131,Try.ntmps131
 refine wp_seq_k ?_
 intro K0 hK0
 go_cut [0,2] from 0 to 0 (λs0 s2 wx=>s0=.int .u64 x/\s2=.int .i64 0/\w=wx)
 case first=>
  clear hK0 K0
  go_wp2_with fail
  go_meet
  exact⟨rfl,rfl,rfl⟩
 case rest=>
 obtain⟨rfl,rfl,rfl⟩:=hcut
 apply hK0
 clear hK0 K0
 refine wp_seq_k ?_
 intro K1 hK1
 go_cut [0,2] from 1 to 3 (λs0 s2 wx=>∃n y:Nat,n<=32/\Hid (y=x/2^n)/\1<=y/\y<4294967296/\s0=.int .u64 y/\s2=.int .i64 n/\w=wx)
 case first=>
  clear hK1 K1
  by_cases hc:4294967296<=x
  ·have hci:(4294967296:Int)<=(x:Int):=by omega
   go_wp2_with fail
   go_meet
   exact⟨32,x/2^32,by omega,aZ rfl,by omega,by omega,by congr 1,rfl,rfl⟩
  ·have hci:¬(4294967296:Int)<=(x:Int):=by omega
   go_wp2_with fail
   go_meet
   exact⟨0,x,by omega,aZ (by simp),hx1,by omega,rfl,rfl,rfl⟩
 case rest=>
 obtain⟨n1,y1,hn1,hy1,h11,h12,rfl,rfl,rfl⟩:=hcut
 apply hK1
 clear hK1 K1
 refine wp_seq_k ?_
 intro K2 hK2
 go_cut [0,2] from 4 to 6 (λs0 s2 wx=>∃n y:Nat,n<=48/\Hid (y=x/2^n)/\1<=y/\y<65536/\s0=.int .u64 y/\s2=.int .i64 n/\w=wx)
 case first=>
  clear hK2 K2
  by_cases hc:65536<=y1
  ·have hci:(65536:Int)<=(y1:Int):=by omega
   go_wp2_with fail
   go_meet
   exact⟨n1+16,y1/2^16,by omega,aZ (by rw[hy1.out,Nat.div_div_eq_div_mul,Nat.pow_add]),by omega,by omega,by congr 1,by congr 1,rfl⟩
  ·have hci:¬(65536:Int)<=(y1:Int):=by omega
   go_wp2_with fail
   go_meet
   exact⟨n1,y1,by omega,hy1,h11,by omega,rfl,rfl,rfl⟩
 case rest=>
 obtain⟨n2,y2,hn2,hy2,h21,h22,rfl,rfl,rfl⟩:=hcut
 apply hK2
 clear hK2 K2 hy1 h11 h12
 refine wp_seq_k ?_
 intro K3 hK3
 go_cut [0,2] from 7 to 9 (λs0 s2 wx=>∃n y:Nat,n<=56/\Hid (y=x/2^n)/\1<=y/\y<256/\s0=.int .u64 y/\s2=.int .i64 n/\w=wx)
 case first=>
  clear hK3 K3
  by_cases hc:256<=y2
  ·have hci:(256:Int)<=(y2:Int):=by omega
   go_wp2_with fail
   go_meet
   exact⟨n2+8,y2/2^8,by omega,aZ (by rw[hy2.out,Nat.div_div_eq_div_mul,Nat.pow_add]),by omega,by omega,by congr 1,by congr 1,rfl⟩
  ·have hci:¬(256:Int)<=(y2:Int):=by omega
   go_wp2_with fail
   go_meet
   exact⟨n2,y2,by omega,hy2,h21,by omega,rfl,rfl,rfl⟩
 case rest=>
 obtain⟨n3,y3,hn3,hy3,h31,h32,rfl,rfl,rfl⟩:=hcut
 apply hK3
 clear hK3 K3 hy2 h21 h22
 go_wp2_with fail
 obtain⟨m,hm,hl⟩:=len_end hn3 hy3.out (tab_ok y3 h31 h32 y3 rfl h32)
 refine bodyPost_ret (v:=.int .i64 m) ?_ rfl ⟨m,rfl,hl,rfl⟩
 simp[results,Try.results131,go_sem]
 exact hm
theorem split32{Y:Nat}(h:Y<18446744073709551616):Y/4294967296*4294967296+Y%4294967296=Y/\Y%4294967296<4294967296/\Y/4294967296<4294967296/\(Y:Int)/4294967296=((Y/4294967296:Nat):Int):=
 ⟨by omega,by omega,by omega,by omega⟩
theorem wrapU_nat(d:Nat)(h:d<18446744073709551616):IntKind.u64.wrap (d:Int)=d:=by rw[IntKind.wrap_u64];omega
theorem zeros64_any(x:Nat)(hx1:1<=x)(hx:x<18446744073709551616)(w:World):
  Calls Try.prog 129 #[.int .u64 x] w λe w'=>∃n:Nat,e=.returned (.int .i64 ((64-n:Nat):Int))/\LenOf x n/\w=w':=by
 have H:=aZ (len64_any x hx1 hx w)
 go_enter Try.func129,Try.ntmps129
 go_wp2_with fail
 refine H.out.mono ?_
 rintro e w' ⟨n,rfl,hl,rfl⟩
 have hn:n<=64:=hl.2.1
 have HL:=aZ hl
 have hc:((64-n:Nat):Int)=64-(n:Int):=by omega
 have HC:=aZ hc
 clear hl hc
 go_wp2
 go_ret
 exact⟨n,by rw[HC.out];rfl,HL.out,rfl⟩
theorem div64_any(hi lo y:Nat)(h0:1<=hi)(hy:hi<y)(hy2:y<9223372036854775808)(hlo:lo<18446744073709551616)(w:World):
  Calls Try.prog 121 #[.int .u64 hi,.int .u64 lo,.int .u64 y] w λe w'=>e=.returned (.tuple #[.int .u64 (((hi*18446744073709551616+lo)/y:Nat):Int),.int .u64 (((hi*18446744073709551616+lo)%y:Nat):Int)])/\w=w':=by
 have HZ:=aZ (zeros64_any y (by omega) (by omega) w)
 have e1:((y:Int)==0)=false:=by rw[beq_eq_false_iff_ne];omega
 have e2:¬(y:Int)<=(hi:Int):=by omega
 have e3:((hi:Int)==0)=false:=by rw[beq_eq_false_iff_ne];omega
 go_enter Try.func121,Try.ntmps121
 go_upto_region 7 with(fail)
 go_wp2_with fail
 refine HZ.out.mono ?_
 rintro e w' ⟨n,rfl,hl,rfl⟩
 obtain⟨s,hs,hsn,hs1,hY1,hY2,hqs,hU,hE⟩:=div_set hl hy hy2 hlo
 rw[hs]
 have h6:hi*2^s<18446744073709551616:=Nat.lt_of_le_of_lt (Nat.le_add_right _ (lo/2^n)) (Nat.lt_trans hU hY2)
 have h7:lo/2^n<18446744073709551616:=Nat.lt_of_le_of_lt (Nat.div_le_self _ _) hlo
 have f1:IntKind.u64.wrap ((y:Int)*2^s)=((y*2^s:Nat):Int):=by rw[show(y:Int)*2^s=((y*2^s:Nat):Int) from by push_cast;rfl];exact wrapU_nat _ hY2
 have f2:IntKind.u64.wrap ((hi:Int)*2^s)=((hi*2^s:Nat):Int):=by rw[show(hi:Int)*2^s=((hi*2^s:Nat):Int) from by push_cast;rfl];exact wrapU_nat _ h6
 have f3:64-s=n:=by omega
 have f4:(lo:Int)/2^n=((lo/2^n:Nat):Int):=by push_cast;rfl
 have f5:bits .or .u64 ((hi*2^s:Nat):Int) ((lo/2^n:Nat):Int)=((hi*2^s+lo/2^n:Nat):Int):=by
  rw[bits_or_u64_nat _ _ h6 h7,<-Nat.shiftLeft_eq,Nat.shiftLeft_add_eq_or_of_lt hqs]
 have f8:IntKind.u64.wrap ((lo:Int)*2^s)=((lo*2^s%18446744073709551616:Nat):Int):=by rw[show(lo:Int)*2^s=((lo*2^s:Nat):Int) from by push_cast;rfl,IntKind.wrap_u64];omega
 have hYd:=aZ (show y*2^s=y*2^s from rfl)
 obtain⟨Y,hY⟩:∃Y,y*2^s=Y:=⟨_,rfl⟩
 obtain⟨Hh,hH⟩:∃Hh,hi*2^s=Hh:=⟨_,rfl⟩
 obtain⟨ql,hql⟩:∃ql,lo/2^n=ql:=⟨_,rfl⟩
 obtain⟨L,hL⟩:∃L,lo*2^s%18446744073709551616=L:=⟨_,rfl⟩
 rw[hY] at f1 hY1 hY2 hU
 rw[hH] at f2 f5 hU hE h6
 rw[hql] at f4 f5 hqs hU hE h7
 rw[hL] at f8 hE
 have hL2:L<18446744073709551616:=by rw[<-hL];exact Nat.mod_lt _ (by omega)
 obtain⟨U,hUU⟩:∃U,Hh+ql=U:=⟨_,rfl⟩
 rw[hUU] at f5 hU hE
 have f6:=maskN Y hY2
 have f9:=maskN L hL2
 obtain⟨g1,g3,g7,f7⟩:=split32 hY2
 obtain⟨g2,g4,g6,f10⟩:=split32 hL2
 have g5:2147483648<=Y/4294967296:=(Nat.le_div_iff_mul_le (by omega)).2 hY1
 obtain⟨y1,hy1⟩:∃y1,Y/4294967296=y1:=⟨_,rfl⟩
 obtain⟨y0,hy0⟩:∃y0,Y%4294967296=y0:=⟨_,rfl⟩
 obtain⟨u1,hu1⟩:∃u1,L/4294967296=u1:=⟨_,rfl⟩
 obtain⟨u0,hu0⟩:∃u0,L%4294967296=u0:=⟨_,rfl⟩
 rw[hy1] at f7 g1 g5 g7
 rw[hy0] at f6 g1 g3
 rw[hu1] at f10 g2 g6
 rw[hu0] at f9 g2 g4
 have HE:Hid (U*18446744073709551616+L=(hi*18446744073709551616+lo)*2^s/\y*2^s=Y):=aZ ⟨hE,hY⟩
 clear hE hY hH hql hL hUU hy1 hy0 hu1 hu0 hYd hl hY1 hqs h6 h7
 have k0:((y1:Int)==0)=false:=by rw[beq_eq_false_iff_ne];omega
 have k1:¬(y1:Int)=0:=by omega
 have l0:=guess_start (y0:=y0) (U:=U) g5 g6
 have l1:U/y1<=4294967297:=guess_le g5 g3 (by rw[g1];exact hU)
 have l2:U%y1<y1:=Nat.mod_lt _ (by omega)
 have hU2:U<18446744073709551616:=by omega
 obtain⟨qq,hqq⟩:∃qq,U/y1=qq:=⟨_,rfl⟩
 obtain⟨rr,hrr⟩:∃rr,U%y1=rr:=⟨_,rfl⟩
 have f11:IntKind.u64.wrap ((U:Int)/(y1:Int))=(qq:Int):=by rw[show(U:Int)/(y1:Int)=((U/y1:Nat):Int) from by push_cast;rfl,hqq];exact wrapU_nat _ (by omega)
 rw[hqq,hrr] at l0
 rw[hqq] at l1
 rw[hrr] at l2
 have hsum:=l0.sum
 obtain⟨mm,hmm⟩:∃mm,qq*y1=mm:=⟨_,rfl⟩
 rw[hmm] at hsum
 have f12:IntKind.u64.wrap ((qq:Int)*(y1:Int))=(mm:Int):=by rw[show(qq:Int)*(y1:Int)=((qq*y1:Nat):Int) from by push_cast;rfl,hmm];exact wrapU_nat _ (by omega)
 have f13:IntKind.u64.wrap ((U:Int)-(mm:Int))=(rr:Int):=by rw[show(U:Int)-(mm:Int)=(rr:Int) from by omega];exact wrapU_nat _ (by omega)
 have HG:=aZ l0
 have HQ:=aZ l1
 clear l0 l1 hqq hrr hmm hsum
 go_upto_region 16 with(fail)
 clear f1 f2 f4 f5 f6 f7 f8 f9 f10 f11 e1 e2 e3 HZ f3
 go_cut [16] from 16 to 16 (λs16 wx=>s16=.int .u64 rr/\w=wx)
 case first=>
  go_wp2_with fail
  go_meet
  exact⟨rfl,rfl⟩
 case rest=>
 clear f12 f13
 obtain⟨rfl,rfl⟩:=hcut
 apply_assumption
 refine wp_seq_k ?_
 intro K1 hK1
 go_cut [15,16] from 17 to 20 (λs15 s16 wx=>∃q:Nat,s15=.int .u64 q/\Hid (q=(U*4294967296+u1)/Y)/\w=wx)
 case first=>
  clear hK1 K1
  go_wp2_with fail
  go_loopw [15,16] (λv15 v16 wr=>∃q r:Nat,v15=.int .u64 q/\v16=.int .u64 r/\r<4294967296/\q<=4294967297/\Hid (Guess y1 y0 U u1 q r)/\w=wr) (λv15 _ _=>(intOf v15).toNat)
  case atStart=>exact⟨qq,rr,rfl,rfl,by omega,HQ.out,HG,rfl⟩
  case round=>
   obtain⟨q,r,rfl,rfl,hr,hq,HG1,rfl⟩:=hrel
   clear HG HQ
   by_cases hc:4294967296<=q
   ·have hci:(4294967296:Int)<=(q:Int):=by omega
    go_upto_region 18 with(fail)
    clear hci
    obtain⟨hq1,hG2⟩:=guess_down g5 g6 (by rw[g1];exact hU) HG1.out (.inl hc)
    obtain⟨p',hp'⟩:∃p',q-1=p':=⟨_,rfl⟩
    obtain⟨r2,hr2⟩:∃r2,r+y1=r2:=⟨_,rfl⟩
    rw[hp',hr2] at hG2
    have t4:IntKind.u64.wrap ((q:Int)-1)=(p':Int):=by rw[show(q:Int)-1=(p':Int) from by omega];exact wrapU_nat _ (by omega)
    have t5:IntKind.u64.wrap ((r:Int)+(y1:Int))=(r2:Int):=by rw[show(r:Int)+(y1:Int)=(r2:Int) from by omega];exact wrapU_nat _ (by omega)
    have HG2:=aZ hG2
    have hms:p'<q:=by omega
    clear hG2
    by_cases hr3:4294967296<=r2
    ·have hr3i:(4294967296:Int)<=(r2:Int):=by omega
     go_wp2_with fail
     go_meet
     exact⟨p',rfl,aZ (by rw[<-g1];exact guess_far g5 g3 HG2.out (by omega) hr3),rfl⟩
    ·have hr3i:¬(4294967296:Int)<=(r2:Int):=by omega
     go_wp2_with fail
     exact⟨⟨p',r2,rfl,rfl,by omega,by omega,HG2,trivial⟩,by simp[intOf];omega⟩
   ·have hci:¬(4294967296:Int)<=(q:Int):=by omega
    have hm:q*y0<=4294967295*4294967295:=Nat.mul_le_mul (by omega) (by omega)
    obtain⟨p,hp⟩:∃p,q*y0=p:=⟨_,rfl⟩
    rw[hp] at hm
    have t1:IntKind.u64.wrap ((q:Int)*(y0:Int))=(p:Int):=by rw[show(q:Int)*(y0:Int)=((q*y0:Nat):Int) from by push_cast;rfl,hp];exact wrapU_nat _ (by omega)
    obtain⟨c,hcc⟩:∃c:Nat,4294967296*r=c:=⟨_,rfl⟩
    have t2:IntKind.u64.wrap (4294967296*(r:Int))=(c:Int):=by rw[show 4294967296*(r:Int)=(c:Int) from by omega];exact wrapU_nat _ (by omega)
    obtain⟨d,hdd⟩:∃d:Nat,c+u1=d:=⟨_,rfl⟩
    have t3:IntKind.u64.wrap ((c:Int)+(u1:Int))=(d:Int):=by rw[show(c:Int)+(u1:Int)=(d:Int) from by omega];exact wrapU_nat _ (by omega)
    by_cases ht:d<p
    ·have hti:(d:Int)<(p:Int):=by omega
     go_upto_region 18 with(fail)
     clear hci hti t1 t2 t3
     obtain⟨hq1,hG2⟩:=guess_down g5 g6 (by rw[g1];exact hU) HG1.out (.inr (by omega))
     obtain⟨p',hp'⟩:∃p',q-1=p':=⟨_,rfl⟩
     obtain⟨r2,hr2⟩:∃r2,r+y1=r2:=⟨_,rfl⟩
     rw[hp',hr2] at hG2
     have t4:IntKind.u64.wrap ((q:Int)-1)=(p':Int):=by rw[show(q:Int)-1=(p':Int) from by omega];exact wrapU_nat _ (by omega)
     have t5:IntKind.u64.wrap ((r:Int)+(y1:Int))=(r2:Int):=by rw[show(r:Int)+(y1:Int)=(r2:Int) from by omega];exact wrapU_nat _ (by omega)
     have HG2:=aZ hG2
     have hms:p'<q:=by omega
     clear hG2
     by_cases hr3:4294967296<=r2
     ·have hr3i:(4294967296:Int)<=(r2:Int):=by omega
      go_wp2_with fail
      go_meet
      exact⟨p',rfl,aZ (by rw[<-g1];exact guess_far g5 g3 HG2.out (by omega) hr3),rfl⟩
     ·have hr3i:¬(4294967296:Int)<=(r2:Int):=by omega
      go_wp2_with fail
      exact⟨⟨p',r2,rfl,rfl,by omega,by omega,HG2,trivial⟩,by simp[intOf];omega⟩
    ·have hti:¬(d:Int)<(p:Int):=by omega
     go_wp2_with fail
     go_meet
     exact⟨q,rfl,aZ (by rw[<-g1];exact guess_fit g5 HG1.out (by omega)),rfl⟩
 case rest=>
 obtain⟨q1,rfl,HQ1,rfl⟩:=hcut
 apply hK1
 clear hK1 K1 HG HQ
 have hYp:1<=Y:=by omega
 obtain⟨R1,hR1d⟩:∃R1,(U*4294967296+u1)%Y=R1:=⟨_,rfl⟩
 have hR1:R1<Y:=by rw[<-hR1d];exact Nat.mod_lt _ (by omega)
 have hN1:q1*Y+R1=U*4294967296+u1:=by rw[<-hR1d,HQ1.out,Nat.mul_comm];exact Nat.div_add_mod _ _
 obtain⟨M1,hM1⟩:∃M1,q1*Y=M1:=⟨_,rfl⟩
 rw[hM1] at hN1
 obtain⟨A1,hA1⟩:∃A1,U*4294967296%18446744073709551616=A1:=⟨_,rfl⟩
 have a1:IntKind.u64.wrap ((U:Int)*4294967296)=(A1:Int):=by rw[IntKind.wrap_u64];omega
 obtain⟨B1,hB1⟩:∃B1,(A1+u1)%18446744073709551616=B1:=⟨_,rfl⟩
 have a2:IntKind.u64.wrap ((A1:Int)+(u1:Int))=(B1:Int):=by rw[IntKind.wrap_u64];omega
 obtain⟨C1,hC1⟩:∃C1,M1%18446744073709551616=C1:=⟨_,rfl⟩
 have a3:IntKind.u64.wrap ((q1:Int)*(Y:Int))=(C1:Int):=by rw[show(q1:Int)*(Y:Int)=((q1*Y:Nat):Int) from by push_cast;rfl,hM1,IntKind.wrap_u64];omega
 have a4:IntKind.u64.wrap ((B1:Int)-(C1:Int))=(R1:Int):=by rw[IntKind.wrap_u64];omega
 clear hA1 hB1 hC1 hM1 hN1
 have l0:=guess_start (y0:=y0) (U:=R1) g5 g4
 have l1:R1/y1<=4294967297:=guess_le g5 g3 (by rw[g1];exact hR1)
 have l2:R1%y1<y1:=Nat.mod_lt _ (by omega)
 obtain⟨qq2,hqq⟩:∃qq,R1/y1=qq:=⟨_,rfl⟩
 obtain⟨rr2,hrr⟩:∃rr,R1%y1=rr:=⟨_,rfl⟩
 have f11:IntKind.u64.wrap ((R1:Int)/(y1:Int))=(qq2:Int):=by rw[show(R1:Int)/(y1:Int)=((R1/y1:Nat):Int) from by push_cast;rfl,hqq];exact wrapU_nat _ (by omega)
 rw[hqq,hrr] at l0
 rw[hqq] at l1
 rw[hrr] at l2
 have hsum:=l0.sum
 obtain⟨mm2,hmm⟩:∃mm,qq2*y1=mm:=⟨_,rfl⟩
 rw[hmm] at hsum
 have f12:IntKind.u64.wrap ((qq2:Int)*(y1:Int))=(mm2:Int):=by rw[show(qq2:Int)*(y1:Int)=((qq2*y1:Nat):Int) from by push_cast;rfl,hmm];exact wrapU_nat _ (by omega)
 have f13:IntKind.u64.wrap ((R1:Int)-(mm2:Int))=(rr2:Int):=by rw[show(R1:Int)-(mm2:Int)=(rr2:Int) from by omega];exact wrapU_nat _ (by omega)
 have HGB:=aZ l0
 have HQ2:=aZ l1
 have HR1D:=aZ hR1d
 clear l0 l1 hqq hrr hmm hsum hR1d
 go_upto_region 23 with(fail)
 clear a1 a2 a3 a4 f11
 go_cut [16] from 23 to 23 (λs16 wx=>s16=.int .u64 rr2/\w=wx)
 case first=>
  go_wp2_with fail
  go_meet
  exact⟨rfl,rfl⟩
 case rest=>
 clear f12 f13
 obtain⟨rfl,rfl⟩:=hcut
 apply_assumption
 refine wp_seq_k ?_
 intro K2 hK2
 go_cut [16,18] from 24 to 27 (λs16 s18 wx=>∃q:Nat,s18=.int .u64 q/\Hid (q=(R1*4294967296+u0)/Y)/\w=wx)
 case first=>
  clear hK2 K2
  go_wp2_with fail
  go_loopw [16,18] (λv16 v18 wr=>∃q r:Nat,v18=.int .u64 q/\v16=.int .u64 r/\r<4294967296/\q<=4294967297/\Hid (Guess y1 y0 R1 u0 q r)/\w=wr) (λ_ v18 _=>(intOf v18).toNat)
  case atStart=>exact⟨qq2,rr2,rfl,rfl,by omega,HQ2.out,HGB,rfl⟩
  case round=>
   obtain⟨q,r,rfl,rfl,hr,hq,HG1,rfl⟩:=hrel
   clear HGB HQ2
   by_cases hc:4294967296<=q
   ·have hci:(4294967296:Int)<=(q:Int):=by omega
    go_upto_region 25 with(fail)
    clear hci
    obtain⟨hq1,hG2⟩:=guess_down g5 g4 (by rw[g1];exact hR1) HG1.out (.inl hc)
    obtain⟨p',hp'⟩:∃p',q-1=p':=⟨_,rfl⟩
    obtain⟨r2,hr2⟩:∃r2,r+y1=r2:=⟨_,rfl⟩
    rw[hp',hr2] at hG2
    have t4:IntKind.u64.wrap ((q:Int)-1)=(p':Int):=by rw[show(q:Int)-1=(p':Int) from by omega];exact wrapU_nat _ (by omega)
    have t5:IntKind.u64.wrap ((r:Int)+(y1:Int))=(r2:Int):=by rw[show(r:Int)+(y1:Int)=(r2:Int) from by omega];exact wrapU_nat _ (by omega)
    have HG2:=aZ hG2
    have hms:p'<q:=by omega
    clear hG2
    by_cases hr3:4294967296<=r2
    ·have hr3i:(4294967296:Int)<=(r2:Int):=by omega
     go_wp2_with fail
     go_meet
     exact⟨p',rfl,aZ (by rw[<-g1];exact guess_far g5 g3 HG2.out (by omega) hr3),rfl⟩
    ·have hr3i:¬(4294967296:Int)<=(r2:Int):=by omega
     go_wp2_with fail
     exact⟨⟨p',r2,rfl,rfl,by omega,by omega,HG2,trivial⟩,by simp[intOf];omega⟩
   ·have hci:¬(4294967296:Int)<=(q:Int):=by omega
    have hm:q*y0<=4294967295*4294967295:=Nat.mul_le_mul (by omega) (by omega)
    obtain⟨p,hp⟩:∃p,q*y0=p:=⟨_,rfl⟩
    rw[hp] at hm
    have t1:IntKind.u64.wrap ((q:Int)*(y0:Int))=(p:Int):=by rw[show(q:Int)*(y0:Int)=((q*y0:Nat):Int) from by push_cast;rfl,hp];exact wrapU_nat _ (by omega)
    obtain⟨c,hcc⟩:∃c:Nat,4294967296*r=c:=⟨_,rfl⟩
    have t2:IntKind.u64.wrap (4294967296*(r:Int))=(c:Int):=by rw[show 4294967296*(r:Int)=(c:Int) from by omega];exact wrapU_nat _ (by omega)
    obtain⟨d,hdd⟩:∃d:Nat,c+u0=d:=⟨_,rfl⟩
    have t3:IntKind.u64.wrap ((c:Int)+(u0:Int))=(d:Int):=by rw[show(c:Int)+(u0:Int)=(d:Int) from by omega];exact wrapU_nat _ (by omega)
    by_cases ht:d<p
    ·have hti:(d:Int)<(p:Int):=by omega
     go_upto_region 25 with(fail)
     clear hci hti t1 t2 t3
     obtain⟨hq1,hG2⟩:=guess_down g5 g4 (by rw[g1];exact hR1) HG1.out (.inr (by omega))
     obtain⟨p',hp'⟩:∃p',q-1=p':=⟨_,rfl⟩
     obtain⟨r2,hr2⟩:∃r2,r+y1=r2:=⟨_,rfl⟩
     rw[hp',hr2] at hG2
     have t4:IntKind.u64.wrap ((q:Int)-1)=(p':Int):=by rw[show(q:Int)-1=(p':Int) from by omega];exact wrapU_nat _ (by omega)
     have t5:IntKind.u64.wrap ((r:Int)+(y1:Int))=(r2:Int):=by rw[show(r:Int)+(y1:Int)=(r2:Int) from by omega];exact wrapU_nat _ (by omega)
     have HG2:=aZ hG2
     have hms:p'<q:=by omega
     clear hG2
     by_cases hr3:4294967296<=r2
     ·have hr3i:(4294967296:Int)<=(r2:Int):=by omega
      go_wp2_with fail
      go_meet
      exact⟨p',rfl,aZ (by rw[<-g1];exact guess_far g5 g3 HG2.out (by omega) hr3),rfl⟩
     ·have hr3i:¬(4294967296:Int)<=(r2:Int):=by omega
      go_wp2_with fail
      exact⟨⟨p',r2,rfl,rfl,by omega,by omega,HG2,trivial⟩,by simp[intOf];omega⟩
    ·have hti:¬(d:Int)<(p:Int):=by omega
     go_wp2_with fail
     go_meet
     exact⟨q,rfl,aZ (by rw[<-g1];exact guess_fit g5 HG1.out (by omega)),rfl⟩
 case rest=>
 obtain⟨q0,rfl,HQ0,rfl⟩:=hcut
 apply hK2
 clear hK2 K2 HGB HQ2
 obtain⟨R2,hR2d⟩:∃R2,(R1*4294967296+u0)%Y=R2:=⟨_,rfl⟩
 have hR2:R2<Y:=by rw[<-hR2d];exact Nat.mod_lt _ (by omega)
 have hN2:q0*Y+R2=R1*4294967296+u0:=by rw[<-hR2d,HQ0.out,Nat.mul_comm];exact Nat.div_add_mod _ _
 obtain⟨D1,D2⟩:=two_digits (y:=Y) (U:=U) (u1:=u1) (u0:=u0) hYp
 rw[HR1D.out,<-HQ1.out,<-HQ0.out] at D1
 rw[HR1D.out,hR2d] at D2
 have eN:U*18446744073709551616+u1*4294967296+u0=(hi*18446744073709551616+lo)*2^s:=by rw[<-HE.out.1,Nat.add_assoc,g2]
 obtain⟨sd1,sd2⟩:=shift_div (N:=hi*18446744073709551616+lo) (y:=y) (s:=s) (by omega)
 rw[eN,<-HE.out.2,sd1] at D1
 rw[eN,<-HE.out.2,sd2] at D2
 have hquo:(hi*18446744073709551616+lo)/y<18446744073709551616:=Nat.div_lt_of_lt_mul (by omega)
 have hrem:R2/2^s=(hi*18446744073709551616+lo)%y:=by rw[D2];exact Nat.mul_div_cancel _ (Nat.two_pow_pos s)
 obtain⟨N1,hN1⟩:∃N1,(hi*18446744073709551616+lo)/y=N1:=⟨_,rfl⟩
 obtain⟨N0,hN0⟩:∃N0,(hi*18446744073709551616+lo)%y=N0:=⟨_,rfl⟩
 rw[hN1] at D1 hquo
 rw[hN0] at hrem
 have HN1:=aZ hN1
 have HN0:=aZ hN0
 clear hN1 hN0 sd1 sd2 D2 eN
 obtain⟨M2,hM2⟩:∃M2,q0*Y=M2:=⟨_,rfl⟩
 rw[hM2] at hN2
 obtain⟨A2,hA2⟩:∃A2,R1*4294967296%18446744073709551616=A2:=⟨_,rfl⟩
 have a1:IntKind.u64.wrap ((R1:Int)*4294967296)=(A2:Int):=by rw[IntKind.wrap_u64];omega
 obtain⟨B2,hB2⟩:∃B2,(A2+u0)%18446744073709551616=B2:=⟨_,rfl⟩
 have a2:IntKind.u64.wrap ((A2:Int)+(u0:Int))=(B2:Int):=by rw[IntKind.wrap_u64];omega
 obtain⟨C2,hC2⟩:∃C2,M2%18446744073709551616=C2:=⟨_,rfl⟩
 have a3:IntKind.u64.wrap ((q0:Int)*(Y:Int))=(C2:Int):=by rw[show(q0:Int)*(Y:Int)=((q0*Y:Nat):Int) from by push_cast;rfl,hM2,IntKind.wrap_u64];omega
 have a4:IntKind.u64.wrap ((B2:Int)-(C2:Int))=(R2:Int):=by rw[IntKind.wrap_u64];omega
 obtain⟨E1,hE1⟩:∃E1,q1*4294967296=E1:=⟨_,rfl⟩
 have a5:IntKind.u64.wrap ((q1:Int)*4294967296)=(E1:Int):=by rw[show(q1:Int)*4294967296=(E1:Int) from by omega];exact wrapU_nat _ (by omega)
 have a6:IntKind.u64.wrap ((E1:Int)+(q0:Int))=(N1:Int):=by rw[show(E1:Int)+(q0:Int)=(N1:Int) from by omega];exact wrapU_nat _ hquo
 have a7:(R2:Int)/2^s=(N0:Int):=by rw[show(R2:Int)/2^s=((R2/2^s:Nat):Int) from by push_cast;rfl,hrem]
 clear hA2 hB2 hC2 hM2 hN2 hE1 hrem hR2d D1
 go_wp2_with fail
 go_ret2
 exact⟨by rw[HN1.out,HN0.out];rfl,rfl⟩
theorem div64_all(p m:Nat)(m1:1<=m)(hm:m<9223372036854775808)(hp:p<18446744073709551616*m)(w:World):
  Calls Try.prog 121 #[.int .u64 ((p/18446744073709551616:Nat):Int),.int .u64 ((p%18446744073709551616:Nat):Int),.int .u64 m] w λe w'=>e=.returned (.tuple #[.int .u64 ((p/m:Nat):Int),.int .u64 ((p%m:Nat):Int)])/\Qt w w':=by
 have hlt:p/18446744073709551616<m:=Nat.div_lt_of_lt_mul hp
 have hlo:p%18446744073709551616<18446744073709551616:=Nat.mod_lt _ (by omega)
 by_cases h:p/18446744073709551616=0
 ·have e:p%18446744073709551616=p:=by omega
  rw[h,e]
  rw[e] at hlo
  exact div64_low p m hlo (by omega) m1 w
 ·have hd:p/18446744073709551616*18446744073709551616+p%18446744073709551616=p:=by rw[Nat.mul_comm];exact Nat.div_add_mod _ _
  refine(div64_any (p/18446744073709551616) (p%18446744073709551616) m (by omega) hlt hm hlo w).mono ?_
  rw[hd]
  rintro e w' ⟨rfl,rfl⟩
  exact⟨rfl,Qt.refl _⟩
theorem mul52_any(a b m:Nat)(ha:a<m)(hb:b<m)(hm:m<=4503599627370496)(w:World):
  Calls Try.prog 100 #[.int .u64 a,.int .u64 b,.int .u64 m] w λe w'=>e=.returned (.int .u64 ((a*b%m:Nat):Int))/\Qt w w':=by
 have hab:a*b<18446744073709551616*m:=by
  have h1:a*b<=4503599627370496*b:=Nat.mul_le_mul_right b (by omega)
  omega
 obtain⟨p,hp⟩:∃p,a*b=p:=⟨_,rfl⟩
 have H1:=aZ (λw=>mul64_any a b (by omega) (by omega) w)
 rw[hp] at H1
 rw[hp] at hab|-
 have H2:=aZ (λw=>div64_all p m (by omega) (by omega) hab w)
 obtain⟨h,hh⟩:∃h,p/18446744073709551616=h:=⟨_,rfl⟩
 obtain⟨l,hl⟩:∃l,p%18446744073709551616=l:=⟨_,rfl⟩
 rw[hh,hl] at H1 H2
 clear hh hl hp hab
 go_enter Try.func100,Try.ntmps100
 go_wp2_with fail
 refine(H1.out _).mono ?_
 rintro e w' ⟨rfl,rfl⟩
 go_wp2_with fail
 refine(H2.out _).mono ?_
 rintro e w' ⟨rfl,n,rfl⟩
 go_wp2
 go_ret
 exact⟨rfl,n,rfl⟩
theorem Mul52_any(a b:Int)(m:Nat)(m1:1<=m)(hm:m<=4503599627370496)(ha:-9223372036854775808<=a)(ha2:a<=9223372036854775807)(hb:-9223372036854775808<=b)(hb2:b<=9223372036854775807)(w:World):
  Calls Try.prog 70 #[.int .i64 a,.int .i64 b,.int .i64 m] w λe w'=>e=.returned (.int .i64 (a*b%m))/\Qt w w':=by
 have a0:=Int.emod_nonneg a (show(m:Int)≠0 by omega)
 have a1:=Int.emod_lt_of_pos a (show(0:Int)<m by omega)
 have b0:=Int.emod_nonneg b (show(m:Int)≠0 by omega)
 have b1:=Int.emod_lt_of_pos b (show(0:Int)<m by omega)
 have hab:((a%m)*(b%m))%m=a*b%m:=by rw[<-Int.mul_emod]
 have h1:=rest_any a m
 have h2:=rest_any b m
 obtain⟨x,hx⟩:=Int.eq_ofNat_of_zero_le a0
 obtain⟨y,hy⟩:=Int.eq_ofNat_of_zero_le b0
 rw[hx] at h1 a1 hab
 rw[hy] at h2 b1 hab
 have hab2:((x*y%m:Nat):Int)=a*b%m:=by rw[<-hab,Int.natCast_emod,Int.natCast_mul]
 obtain⟨p,hp⟩:∃p,x*y%m=p:=⟨_,rfl⟩
 have hpm:p<m:=by rw[<-hp];exact Nat.mod_lt _ (by omega)
 rw[hp] at hab2
 have h3:=λw=>mul52_any x y m (by omega) (by omega) hm w
 rw[hp] at h3
 have H1:=aZ (λw=>h1 w (by omega) (by omega) ha ha2)
 have H2:=aZ (λw=>h2 w (by omega) (by omega) hb hb2)
 have H3:=aZ h3
 rw[<-hab2]
 clear hx hy hab hab2 h1 h2 h3 hp a0 b0
 have HM:=aZ (λw=>modulus_any m (by omega) (by omega) w)
 go_enter Try.func70,Try.ntmps70
 go_wp2_with fail
 refine(HM.out _).mono ?_
 rintro e w' ⟨rfl,rfl⟩
 go_wp2_with fail
 refine(H1.out _).mono ?_
 rintro e w' ⟨rfl,rfl⟩
 go_wp2_with fail
 refine(H2.out _).mono ?_
 rintro e w' ⟨rfl,rfl⟩
 go_wp2_with fail
 refine(H3.out _).mono ?_
 rintro e w' ⟨rfl,n,rfl⟩
 go_wp2
 go_ret
 exact⟨rfl,n,rfl⟩
theorem Pow52_any(a:Int)(x e m:Nat)(hx:a%(m:Int)=x)(m1:1<=m)(hm:m<=4503599627370496)(ha:-9223372036854775808<=a)(ha2:a<=9223372036854775807)(he:e<=9223372036854775807)(w:World):
  Calls Try.prog 71 #[.int .i64 a,.int .i64 e,.int .i64 m] w λz w'=>z=.returned (.int .i64 (pmod x e m:Nat))/\Qt w w':=by
 have h1:=rest_any a m
 have h2:=rest_any 1 m
 have x1:=Int.emod_lt_of_pos a (show(0:Int)<m by omega)
 rw[hx] at h1 x1
 obtain⟨u,hu⟩:∃u:Nat,(1:Int)%m=u:=⟨1%m,by rw[Int.natCast_emod];rfl⟩
 have hum:(1:Int)%m<m:=Int.emod_lt_of_pos 1 (show(0:Int)<m by omega)
 rw[hu] at h2 hum
 have H0:PowS (pmod x e m) m e x u:=⟨by
  have:u=1%m:=by
   have:(u:Int)=((1%m:Nat):Int):=by rw[<-hu,Int.natCast_emod];rfl
   omega
  rw[this]
  unfold pmod
  rw[<-Nat.mul_mod_mod,Nat.mod_mul_mod,Nat.one_mul,Nat.mod_mod]⟩
 have H1:=aZ (λw=>h1 w (by omega) (by omega) ha ha2)
 have H2:=aZ (λw=>h2 w (by omega) (by omega) (by omega) (by omega))
 have HP:=aZ H0
 have HM:=aZ (λw=>modulus_any m (by omega) (by omega) w)
 have HX:=aZ (λa b (ha:a<m) (hb:b<m) w=>mul52_any a b m ha hb hm w)
 clear h1 h2 hx hu H0
 generalize pmod x e m=T at*
 go_enter Try.func71,Try.ntmps71
 go_wp2_with fail
 refine(HM.out _).mono ?_
 rintro z w' ⟨rfl,rfl⟩
 go_wp2_with fail
 refine(H1.out _).mono ?_
 rintro z w' ⟨rfl,rfl⟩
 go_wp2_with fail
 refine(H2.out _).mono ?_
 rintro z w' ⟨rfl,rfl⟩
 go_wp2
 go_loopw [1,7,8] (λve vx vo wr=>∃e x o:Nat,ve=.int .i64 e/\vx=.int .u64 x/\vo=.int .u64 o/\e<=9223372036854775807/\x<m/\o<m/\Hid (PowS T m e x o)/\Hid (Qt w wr)) (λve _ _ _=>(intOf ve).toNat)
 case atStart=>exact⟨e,x,u,rfl,rfl,rfl,he,by omega,by omega,HP,aZ (Qt.refl _)⟩
 case round=>
  clear HP
  obtain⟨e,x,o,rfl,rfl,rfl,he,hx,ho,hp,hq⟩:=hrel
  by_cases h0:e=0
  ·subst h0
   have hr:=PowS.done hp.out ho
   subst hr
   go_wp2
   go_ret
   exact⟨rfl,hq.out⟩
  ·have hpos:(0:Int)<e:=by omega
   have hsh:((e/2:Nat):Int)=(e:Int)/2:=by omega
   rcases Nat.mod_two_eq_zero_or_one e with h2|h2
   ·have hb:bits .and .i64 (e:Int) 1=0:=by rw[i64_and1];omega
    have hn:=PowS.even (e:=e/2) (by rw[show 2*(e/2)=e from by omega];exact hp.out)
    have HN:=aZ hn
    have HB:=aZ hsh
    clear hn h2 hsh
    go_wp2_with fail
    refine(HX.out _ _ hx hx _).mono ?_
    rintro z w' ⟨rfl,hq2⟩
    have hxm:x*x%m<m:=Nat.mod_lt _ m1
    have HQ:=aZ (Qt.trans hq.out hq2)
    clear hq2
    go_wp2
    exact⟨⟨e/2,x*x%m,o,by rw[HB.out],rfl,rfl,by omega,hxm,ho,HN,HQ⟩,by simp[intOf];omega⟩
   ·have hb:bits .and .i64 (e:Int) 1=1:=by rw[i64_and1];omega
    have hn:=PowS.odd (e:=e/2) (by rw[show 2*(e/2)+1=e from by omega];exact hp.out)
    have HN:=aZ hn
    have HB:=aZ hsh
    clear hn h2 hsh
    go_wp2_with fail
    refine(HX.out _ _ ho hx _).mono ?_
    rintro z w' ⟨rfl,hq2⟩
    have HQ1:=aZ (Qt.trans hq.out hq2)
    clear hq2
    go_wp2_with fail
    refine(HX.out _ _ hx hx _).mono ?_
    rintro z w' ⟨rfl,hq2⟩
    have hxm:x*x%m<m:=Nat.mod_lt _ m1
    have hom:o*x%m<m:=Nat.mod_lt _ m1
    have HQ:=aZ (Qt.trans HQ1.out hq2)
    clear hq2
    go_wp2
    exact⟨⟨e/2,x*x%m,o*x%m,by rw[HB.out],rfl,rfl,by omega,hxm,hom,HN,HQ⟩,by simp[intOf];omega⟩
theorem strong52_any(n b:Nat)(hn:2<=n)(hn2:n<=4503599627370496)(hb:b<=4503599627370496)(w:World):
  Calls Try.prog 118 #[.int .i64 n,.int .i64 b] w λz w'=>z=.returned (.bool (strongB n b))/\Qt w w':=by
 have hD:=oddL_bd 64 (n-1) (by omega)
 obtain⟨D,hDe⟩:∃D,oddL 64 (n-1)=D:=⟨_,rfl⟩
 have hS:strongB n b=if pmod b D n=1 then true else strL 64 D (pmod b D n) n:=by
  unfold strongB
  rw[bif_eq,hDe,pmB_eq _ _ _ (by omega) (by omega)]
 have hp:pmod (b%n) D n=pmod b D n:=by unfold pmod;rw[<-Nat.pow_mod]
 have hP:=Pow52_any (b:Int) (b%n) D n (by rw[Int.natCast_emod]) (by omega) hn2 (by omega) (by omega) (by omega)
 rw[hp] at hP
 have hX:=pmod_lt b D n (by omega)
 obtain⟨X,hXe⟩:∃X,pmod b D n=X:=⟨_,rfl⟩
 rw[hXe] at hS hP hX
 rw[hDe] at hD
 have HDe:=aZ hDe
 have HS:=aZ hS
 have HP:=aZ hP
 have HM:=aZ (λ(x:Nat) (hx:x<n) w=>Mul52_any (x:Int) (x:Int) n (by omega) hn2 (by omega) (by omega) (by omega) (by omega) w)
 clear hDe hS hp hP hXe
 generalize strongB n b=S at*
 have hn1:((n:Int)-1)=((n-1:Nat):Int):=by omega
 have HN1:=aZ hn1
 clear hn1
 go_enter Try.func118,Try.ntmps118
 go_wp2
 go_loop [5] (λv=>∃f d:Nat,v=.int .i64 d/\1<=d/\d<4503599627370496/\d<2^f/\Hid (oddL f d=D)) (λv=>(intOf v).toNat)
 case atStart=>exact⟨64,n-1,by rw[<-HN1.out],by omega,by omega,by omega,HDe⟩
 case round=>
  clear HDe
  obtain⟨f,d,rfl,hd1,hd2,hdf,hod⟩:=hrel
  obtain⟨f,rfl⟩:∃f',f=f'+1:=⟨f-1,by
   have:f≠0:=by rintro rfl;omega
   omega⟩
  have ho:=hod.out
  rw[oddL_step] at ho
  rcases Nat.mod_two_eq_zero_or_one d with h2|h2
  ·rw[if_pos h2] at ho
   have HO:=aZ ho
   have hi:(d:Int)%2=0:=by omega
   have hh:(d:Int)/2=((d/2:Nat):Int):=by omega
   have HH:=aZ hh
   clear ho hh h2
   go_wp2
   exact⟨⟨f,d/2,by rw[HH.out],by omega,by omega,by rw[Nat.pow_succ] at hdf;omega,HO⟩,by simp[intOf];omega⟩
  ·rw[if_neg (by omega)] at ho
   subst ho
   have hi:((d:Int)%2==0)=false:=by rw[beq_eq_false_iff_ne];omega
   clear h2 hod
   go_wp2_with fail
   refine(HP.out _).mono ?_
   rintro z w' ⟨rfl,hq⟩
   have HQ:=aZ hq
   clear hq
   by_cases hX1:X=1
   ·have HR:Hid (S=true):=aZ (by rw[HS.out,if_pos hX1])
    subst hX1
    go_wp2
    go_ret
    exact⟨by rw[HR.out];rfl,HQ.out⟩
   ·have HR:Hid (strL 64 d X n=S):=aZ (by rw[HS.out,if_neg hX1])
    have hX1':((X:Int)==1)=false:=by rw[beq_eq_false_iff_ne];omega
    clear HP HS
    go_wp2
    go_loopw [5,6] (λv vx wr=>∃f d x:Nat,v=.int .i64 d/\vx=.int .i64 x/\1<=d/\d<9007199254740992/\x<n/\n-1<=d*2^f/\Hid (strL f d x n=S)/\Hid (Qt w wr)) (λv _ _=>n-(intOf v).toNat)
    case atStart=>exact⟨64,d,X,rfl,rfl,by omega,by omega,by omega,by omega,HR,HQ⟩
    case round=>
     clear HR HQ
     obtain⟨f,d',x,rfl,rfl,hd1',hd',hx,hdf,hst,hq⟩:=hrel
     by_cases hlt:d'<n-1
     ·obtain⟨f,rfl⟩:∃f',f=f'+1:=⟨f-1,by
        have:f≠0:=by rintro rfl;omega
        omega⟩
      have hs:=hst.out
      rw[strL_step,if_neg (by omega)] at hs
      have hlt':(d':Int)<(n:Int)-1:=by omega
      by_cases hxn:x=n-1
      ·rw[if_pos hxn] at hs
       have HE:=aZ hs
       have hxe:(x:Int)=(n:Int)-1:=by omega
       have hxb:((x:Int)==(n:Int)-1)=true:=by rw[beq_iff_eq];exact hxe
       clear hs hxe hxn
       go_wp2
       go_ret
       exact⟨by rw[HE.out];rfl,hq.out⟩
      ·rw[if_neg hxn] at hs
       have HE:=aZ hs
       have hxb:((x:Int)==(n:Int)-1)=false:=by rw[beq_eq_false_iff_ne];omega
       clear hs hxn
       go_wp2_with fail
       refine(HM.out x hx _).mono ?_
       rintro z w2 ⟨rfl,hq2⟩
       have HQ2:=aZ (Qt.trans hq.out hq2)
       have hxx:(x:Int)*x%n=((x*x%n:Nat):Int):=by rw[Int.natCast_emod,Int.natCast_mul]
       rw[hxx]
       have hxl:x*x%n<n:=Nat.mod_lt _ (by omega)
       generalize x*x%n=y at*
       clear hq2 hxx
       go_wp2
       exact⟨⟨f,d'*2,y,by go_num,rfl,by omega,by omega,hxl,by rw[Nat.pow_succ,Nat.mul_comm (2^f),<-Nat.mul_assoc] at hdf;omega,HE,HQ2⟩,by simp[intOf];omega⟩
     ·have hlt':¬(d':Int)<(n:Int)-1:=by omega
      have hs:S=false:=by
       rw[<-hst.out]
       rcases f with _|f
       ·rfl
       ·rw[strL_step,if_pos (by omega)]
      have HE:=aZ hs
      clear hs
      go_wp2
      go_ret
      exact⟨by rw[HE.out];rfl,hq.out⟩
theorem is52_any(n:Nat)(hn2:n<=4503599627370496)(w:World):
  Calls Try.prog 94 #[.int .i64 n] w λz w'=>z=.returned (.bool (isB n))/\Below w.heap.size w w':=by
 by_cases h2:n<2
 ·have HR:Hid (isB n=false):=aZ (by
    unfold isB
    rw[bif_le,if_pos (by omega)])
  have h2':(n:Int)<2:=by omega
  clear h2
  go_enter Try.func94,Try.ntmps94
  go_wp2
  go_ret
  exact⟨by rw[HR.out];rfl,((Below.refl _ _).alloc (Nat.le_refl _) _)⟩
 ·have HR:Hid (isB n=match divK n 0 with|some r=>r|none=>allK n 0):=aZ (by
    unfold isB
    rw[bif_le,if_neg (by omega)]
    rfl)
  have h2':¬(n:Int)<2:=by omega
  have HS:=aZ (λb (hb:b<=4503599627370496) w=>strong52_any n b (by omega) hn2 hb w)
  clear h2
  generalize isB n=S at*
  go_enter Try.func94,Try.ntmps94
  go_wp2
  have HB0:Hid (Below w.heap.size w (w.alloc (Obj.cells #[Value.int IntKind.i64 2,Value.int IntKind.i64 3,Value.int IntKind.i64 5,Value.int IntKind.i64 7,Value.int IntKind.i64 11,Value.int IntKind.i64 13,Value.int IntKind.i64 17,Value.int IntKind.i64 19,Value.int IntKind.i64 23,Value.int IntKind.i64 29,Value.int IntKind.i64 31,Value.int IntKind.i64 37] 155))):=aZ ((Below.refl _ _).alloc (Nat.le_refl _) _)
  go_loop [16] (λi=>∃k:Nat,k<=12/\i=.int .i64 k/\Hid (S=match divK n k with|some r=>r|none=>allK n 0)) (λi=>12-(intOf i).toNat)
  case atStart=>exact⟨0,by omega,rfl,HR⟩
  case round=>
   clear HR
   obtain⟨k,hk,rfl,hd⟩:=hrel
   by_cases hlt:k<12
   ·obtain⟨b,hb,b2,b37,hix⟩:=base_at k hlt
    have hki:(k:Int)<12:=by omega
    have hdo:=hd.out
    rw[divK_step _ _ _ hb] at hdo
    have hb0:¬(b:Int)=0:=by omega
    clear hd hb
    by_cases hm:n%b=0
    ·rw[if_pos hm] at hdo
     have HE:Hid (S=((n:Int)==(b:Int))):=aZ (by rw[beq_nat n b];exact hdo)
     have hm':((n:Int)%b==0)=true:=by rw[beq_iff_eq,<-Int.natCast_emod,hm];rfl
     clear hm hdo
     go_wp2
     go_ret
     exact⟨by rw[HE.out];rfl,HB0.out⟩
    ·rw[if_neg hm] at hdo
     have HE:=aZ hdo
     have hm':((n:Int)%b==0)=false:=by rw[beq_eq_false_iff_ne,<-Int.natCast_emod];omega
     clear hm hdo
     go_wp2
     exact⟨⟨k+1,by omega,by go_num,HE⟩,by simp[intOf];omega⟩
   ·obtain rfl:k=12:=by omega
    have hdo:Hid (S=allK n 0):=aZ (by have:=hd.out;rw[divK_12] at this;exact this)
    clear hd hlt hk
    go_wp2
    go_loopw [28] (λi wr=>∃k:Nat,k<=12/\i=.int .i64 k/\Hid (S=allK n k)/\Hid (Below w.heap.size w wr)) (λi _=>12-(intOf i).toNat)
    case atStart=>exact⟨0,by omega,rfl,hdo,HB0⟩
    case round=>
     clear hdo HB0
     obtain⟨k,hk,rfl,hd,hbl⟩:=hrel
     by_cases hlt:k<12
     ·obtain⟨b,hb,b2,b37,hix⟩:=base_at k hlt
      have hki:(k:Int)<12:=by omega
      have hdo:=hd.out
      rw[allK_step _ _ _ hb] at hdo
      have HSb:=HS.out b (by omega)
      clear hd hb
      cases hs:strongB n b
      ·rw[hs] at hdo HSb
       have HE:Hid (S=false):=aZ (by rw[hdo];rfl)
       have HSB:=aZ HSb
       clear hs hdo HSb
       go_wp2_with fail
       refine(HSB.out _).mono ?_
       rintro z w' ⟨rfl,hq⟩
       have HB:=aZ (hbl.out.trans (hq.below.mono hbl.out.size))
       clear hq
       go_wp2
       go_ret
       exact⟨by rw[HE.out];rfl,HB.out⟩
      ·rw[hs] at hdo HSb
       have HE:Hid (S=allK n (k+1)):=aZ (by rw[hdo];rfl)
       have HSB:=aZ HSb
       clear hs hdo HSb
       go_wp2_with fail
       refine(HSB.out _).mono ?_
       rintro z w' ⟨rfl,hq⟩
       have HB:=aZ (hbl.out.trans (hq.below.mono hbl.out.size))
       clear hq
       go_wp2
       exact⟨⟨k+1,by omega,by go_num,HE,HB⟩,by simp[intOf];omega⟩
     ·obtain rfl:k=12:=by omega
      have HE:Hid (S=true):=aZ (by rw[hd.out,allK_12])
      clear hd hlt hk
      go_wp2
      go_ret
      exact⟨by rw[HE.out];rfl,hbl.out⟩
end Go.Proofs.Yteaimnemobnknaa
