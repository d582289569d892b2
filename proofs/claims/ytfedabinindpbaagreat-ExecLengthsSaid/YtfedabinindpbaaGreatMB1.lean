/- How math/bits.Div64 divides: the plain law. -/
import Derived.Test.YtfedabinindpbaaGreatX0
import Derived.Test.YtfedabinindpbaaGreatMW1
import Derived.ProofKit
set_option linter.unusedSimpArgs false
set_option linter.unusedVariables false
set_option maxRecDepth 100000
set_option maxHeartbeats 4000000
namespace Go.Proofs.YtfedabinindpbaaGreat
structure Guess(y1 y0 U u:Nat)(q rh:Nat):Prop where
 sum:q*y1+rh=U
 ge:(U*4294967296+u)/(y1*4294967296+y0)<=q
theorem guess_start{y1 y0 U u:Nat}(hy1:2147483648<=y1)(hu:u<4294967296):Guess y1 y0 U u (U/y1) (U%y1):=by
 refine⟨by rw[Nat.mul_comm];exact Nat.div_add_mod U y1,?_⟩
 have h1:U<(U/y1+1)*y1:=by rw[Nat.mul_comm];exact Nat.lt_mul_div_succ U (by omega)
 refine Nat.le_of_lt_succ ((Nat.div_lt_iff_lt_mul (by omega)).2 ?_)
 have h2:(U/y1+1)*(y1*4294967296)<=(U/y1+1)*(y1*4294967296+y0):=Nat.mul_le_mul_left _ (by omega)
 rw[<-Nat.mul_assoc] at h2
 show _<(U/y1+1)*_
 omega
theorem guess_le{y1 y0 U:Nat}(hy1:2147483648<=y1)(hy0:y0<4294967296)(hU:U<y1*4294967296+y0):U/y1<=4294967297:=by
 refine Nat.le_of_lt_succ ((Nat.div_lt_iff_lt_mul (by omega)).2 ?_)
 omega
theorem guess_down{y1 y0 U u q rh:Nat}(hy1:2147483648<=y1)(hu:u<4294967296)(hU:U<y1*4294967296+y0)(h:Guess y1 y0 U u q rh)(ht:4294967296<=q\/4294967296*rh+u<q*y0):1<=q/\Guess y1 y0 U u (q-1) (rh+y1):=by
 have hlt:(U*4294967296+u)/(y1*4294967296+y0)<q:=by
  rcases ht with h1|h1
  ·refine Nat.lt_of_lt_of_le ((Nat.div_lt_iff_lt_mul (by omega)).2 ?_) h1
   omega
  ·refine(Nat.div_lt_iff_lt_mul (by omega)).2 ?_
   have hs:=h.sum
   have:q*(y1*4294967296+y0)=q*y1*4294967296+q*y0:=by rw[Nat.mul_add,Nat.mul_assoc]
   rw[this]
   generalize q*y1=a at*
   generalize q*y0=c at*
   omega
 have hq0:0<q:=Nat.lt_of_le_of_lt (Nat.zero_le _) hlt
 obtain⟨p,rfl⟩:∃p,q=p+1:=⟨q-1,by clear hlt;omega⟩
 refine⟨hq0,⟨?_,Nat.le_of_lt_succ hlt⟩⟩
 clear hlt
 have hs:=h.sum
 rw[Nat.succ_mul] at hs
 show p*y1+(rh+y1)=U
 omega
theorem guess_fit{y1 y0 U u q rh:Nat}(hy1:2147483648<=y1)(h:Guess y1 y0 U u q rh)(ht:q*y0<=4294967296*rh+u):q=(U*4294967296+u)/(y1*4294967296+y0):=by
 refine Nat.le_antisymm ((Nat.le_div_iff_mul_le (by omega)).2 ?_) h.ge
 have hs:=h.sum
 have:q*(y1*4294967296+y0)=q*y1*4294967296+q*y0:=by rw[Nat.mul_add,Nat.mul_assoc]
 rw[this]
 generalize q*y1=a at*
 generalize q*y0=c at*
 omega
theorem guess_far{y1 y0 U u q rh:Nat}(hy1:2147483648<=y1)(hy0:y0<4294967296)(h:Guess y1 y0 U u q rh)(hq:q<=4294967296)(hr:4294967296<=rh):q=(U*4294967296+u)/(y1*4294967296+y0):=by
 refine guess_fit hy1 h ?_
 have:q*y0<=4294967296*4294967295:=Nat.mul_le_mul hq (by omega)
 omega
theorem two_digits{y U u1 u0:Nat}(hy:1<=y):
  (U*4294967296+u1)/y*4294967296+((U*4294967296+u1)%y*4294967296+u0)/y=(U*18446744073709551616+u1*4294967296+u0)/y/\((U*4294967296+u1)%y*4294967296+u0)%y=(U*18446744073709551616+u1*4294967296+u0)%y:=by
 have e:U*18446744073709551616+u1*4294967296+u0=y*((U*4294967296+u1)/y*4294967296)+((U*4294967296+u1)%y*4294967296+u0):=by
  have:=Nat.div_add_mod (U*4294967296+u1) y
  rw[<-Nat.mul_assoc]
  omega
 rw[e,Nat.mul_add_div (by omega),Nat.mul_add_mod]
 exact⟨rfl,rfl⟩
theorem shift_div{N y s:Nat}(hy:1<=y):N*2^s/(y*2^s)=N/y/\N*2^s%(y*2^s)=N%y*2^s:=⟨Nat.mul_div_mul_right _ _ (Nat.two_pow_pos s),by rw[Nat.mul_mod_mul_right]⟩
def LenOf(x n:Nat):Prop:=1<=n/\n<=64/\2^(n-1)<=x/\x<2^n
theorem div_set{hi lo y n:Nat}(h:LenOf y n)(hy:hi<y)(hy2:y<9223372036854775808)(hlo:lo<18446744073709551616):
  ∃s,64-n=s/\s+n=64/\1<=s/\9223372036854775808<=y*2^s/\y*2^s<18446744073709551616/\lo/2^n<2^s/\hi*2^s+lo/2^n<y*2^s/\
   (hi*2^s+lo/2^n)*18446744073709551616+lo*2^s%18446744073709551616=(hi*18446744073709551616+lo)*2^s:=by
 obtain⟨h1,h2,h3,h4⟩:=h
 have hn:n-1<63:=(Nat.pow_lt_pow_iff_right (a:=2) (by omega)).1 (show 2^(n-1)<2^63 from Nat.lt_of_le_of_lt h3 hy2)
 obtain⟨s,hs⟩:∃s,64-n=s:=⟨_,rfl⟩
 have hsn:s+n=64:=by omega
 have eP:2^n*2^s=18446744073709551616:=by rw[<-Nat.pow_add,show n+s=64 from by omega]
 have eQ:2^(n-1)*2^s=9223372036854775808:=by rw[<-Nat.pow_add,show n-1+s=63 from by omega]
 have hS:=Nat.two_pow_pos s
 have hP:=Nat.two_pow_pos n
 refine⟨s,hs,hsn,by omega,?_,?_,?_,?_,?_⟩
 all_goals generalize 2^s=S at*
 all_goals generalize 2^n=P at*
 ·rw[<-eQ];exact Nat.mul_le_mul_right S h3
 ·rw[<-eP];exact Nat.mul_lt_mul_of_pos_right h4 hS
 ·exact Nat.div_lt_of_lt_mul (by rw[eP];exact hlo)
 ·have h5:lo/P<S:=Nat.div_lt_of_lt_mul (by rw[eP];exact hlo)
  have h6:(hi+1)*S<=y*S:=Nat.mul_le_mul_right S hy
  rw[Nat.succ_mul] at h6
  omega
 ·have h5:=Nat.div_add_mod lo P
  have h6:=Nat.mod_lt lo hP
  generalize lo/P=q at*
  generalize lo%P=r at*
  have h7:lo*S=q*18446744073709551616+r*S:=by rw[<-h5,Nat.add_mul,Nat.mul_comm P q,Nat.mul_assoc,eP]
  have h8:r*S<18446744073709551616:=by rw[<-eP];exact Nat.mul_lt_mul_of_pos_right h6 hS
  rw[Nat.add_mul,h7,Nat.add_mul,Nat.mul_right_comm]
  generalize r*S=c at*
  generalize hi*S=d at*
  omega
end Go.Proofs.YtfedabinindpbaaGreat
namespace Go.Proofs.YtfedabinindpbaaGreat
open Go.RowKit Go.Lib
theorem LenOf.up{x n k:Nat}(h:LenOf (x/2^k) n)(hk:n+k<=64):LenOf x (n+k):=by
 obtain⟨h1,h2,h3,h4⟩:=h
 refine⟨by omega,hk,?_,?_⟩
 ·rw[show n+k-1=n-1+k from by omega,Nat.pow_add]
  exact(Nat.le_div_iff_mul_le (Nat.two_pow_pos k)).1 h3
 ·rw[Nat.pow_add]
  exact(Nat.div_lt_iff_lt_mul (Nat.two_pow_pos k)).1 h4
theorem tab_all:∀k:Fin 256,1<=k.1->1<=(({data:=#[0,1,2,2,3,3,3,3,4,4,4,4,4,4,4,4,5,5,5,5,5,5,5,5,5,5,5,5,5,5,5,5,6,6,6,6,6,6,6,6,6,6,6,6,6,6,6,6,6,6,6,6,6,6,6,6,6,6,6,6,6,6,6,6,7,7,7,7,7,7,7,7,7,7,7,7,7,7,7,7,7,7,7,7,7,7,7,7,7,7,7,7,7,7,7,7,7,7,7,7,7,7,7,7,7,7,7,7,7,7,7,7,7,7,7,7,7,7,7,7,7,7,7,7,7,7,7,7,8,8,8,8,8,8,8,8,8,8,8,8,8,8,8,8,8,8,8,8,8,8,8,8,8,8,8,8,8,8,8,8,8,8,8,8,8,8,8,8,8,8,8,8,8,8,8,8,8,8,8,8,8,8,8,8,8,8,8,8,8,8,8,8,8,8,8,8,8,8,8,8,8,8,8,8,8,8,8,8,8,8,8,8,8,8,8,8,8,8,8,8,8,8,8,8,8,8,8,8,8,8,8,8,8,8,8,8,8,8,8,8,8,8,8,8,8,8,8,8,8,8,8,8,8,8,8,8]}:ByteArray)[k.1]'(k.2)).toNat/\(({data:=#[0,1,2,2,3,3,3,3,4,4,4,4,4,4,4,4,5,5,5,5,5,5,5,5,5,5,5,5,5,5,5,5,6,6,6,6,6,6,6,6,6,6,6,6,6,6,6,6,6,6,6,6,6,6,6,6,6,6,6,6,6,6,6,6,7,7,7,7,7,7,7,7,7,7,7,7,7,7,7,7,7,7,7,7,7,7,7,7,7,7,7,7,7,7,7,7,7,7,7,7,7,7,7,7,7,7,7,7,7,7,7,7,7,7,7,7,7,7,7,7,7,7,7,7,7,7,7,7,8,8,8,8,8,8,8,8,8,8,8,8,8,8,8,8,8,8,8,8,8,8,8,8,8,8,8,8,8,8,8,8,8,8,8,8,8,8,8,8,8,8,8,8,8,8,8,8,8,8,8,8,8,8,8,8,8,8,8,8,8,8,8,8,8,8,8,8,8,8,8,8,8,8,8,8,8,8,8,8,8,8,8,8,8,8,8,8,8,8,8,8,8,8,8,8,8,8,8,8,8,8,8,8,8,8,8,8,8,8,8,8,8,8,8,8,8,8,8,8,8,8,8,8,8,8,8,8]}:ByteArray)[k.1]'(k.2)).toNat<=8/\2^((({data:=#[0,1,2,2,3,3,3,3,4,4,4,4,4,4,4,4,5,5,5,5,5,5,5,5,5,5,5,5,5,5,5,5,6,6,6,6,6,6,6,6,6,6,6,6,6,6,6,6,6,6,6,6,6,6,6,6,6,6,6,6,6,6,6,6,7,7,7,7,7,7,7,7,7,7,7,7,7,7,7,7,7,7,7,7,7,7,7,7,7,7,7,7,7,7,7,7,7,7,7,7,7,7,7,7,7,7,7,7,7,7,7,7,7,7,7,7,7,7,7,7,7,7,7,7,7,7,7,7,8,8,8,8,8,8,8,8,8,8,8,8,8,8,8,8,8,8,8,8,8,8,8,8,8,8,8,8,8,8,8,8,8,8,8,8,8,8,8,8,8,8,8,8,8,8,8,8,8,8,8,8,8,8,8,8,8,8,8,8,8,8,8,8,8,8,8,8,8,8,8,8,8,8,8,8,8,8,8,8,8,8,8,8,8,8,8,8,8,8,8,8,8,8,8,8,8,8,8,8,8,8,8,8,8,8,8,8,8,8,8,8,8,8,8,8,8,8,8,8,8,8,8,8,8,8,8,8]}:ByteArray)[k.1]'(k.2)).toNat-1)<=k.1/\k.1<2^(({data:=#[0,1,2,2,3,3,3,3,4,4,4,4,4,4,4,4,5,5,5,5,5,5,5,5,5,5,5,5,5,5,5,5,6,6,6,6,6,6,6,6,6,6,6,6,6,6,6,6,6,6,6,6,6,6,6,6,6,6,6,6,6,6,6,6,7,7,7,7,7,7,7,7,7,7,7,7,7,7,7,7,7,7,7,7,7,7,7,7,7,7,7,7,7,7,7,7,7,7,7,7,7,7,7,7,7,7,7,7,7,7,7,7,7,7,7,7,7,7,7,7,7,7,7,7,7,7,7,7,8,8,8,8,8,8,8,8,8,8,8,8,8,8,8,8,8,8,8,8,8,8,8,8,8,8,8,8,8,8,8,8,8,8,8,8,8,8,8,8,8,8,8,8,8,8,8,8,8,8,8,8,8,8,8,8,8,8,8,8,8,8,8,8,8,8,8,8,8,8,8,8,8,8,8,8,8,8,8,8,8,8,8,8,8,8,8,8,8,8,8,8,8,8,8,8,8,8,8,8,8,8,8,8,8,8,8,8,8,8,8,8,8,8,8,8,8,8,8,8,8,8,8,8,8,8,8,8]}:ByteArray)[k.1]'(k.2)).toNat:=by decide+kernel
theorem tab_ok(k:Nat)(h1:1<=k)(h2:k<256)(i:Nat)(hi:i=k)(h:i<({data:=#[0,1,2,2,3,3,3,3,4,4,4,4,4,4,4,4,5,5,5,5,5,5,5,5,5,5,5,5,5,5,5,5,6,6,6,6,6,6,6,6,6,6,6,6,6,6,6,6,6,6,6,6,6,6,6,6,6,6,6,6,6,6,6,6,7,7,7,7,7,7,7,7,7,7,7,7,7,7,7,7,7,7,7,7,7,7,7,7,7,7,7,7,7,7,7,7,7,7,7,7,7,7,7,7,7,7,7,7,7,7,7,7,7,7,7,7,7,7,7,7,7,7,7,7,7,7,7,7,8,8,8,8,8,8,8,8,8,8,8,8,8,8,8,8,8,8,8,8,8,8,8,8,8,8,8,8,8,8,8,8,8,8,8,8,8,8,8,8,8,8,8,8,8,8,8,8,8,8,8,8,8,8,8,8,8,8,8,8,8,8,8,8,8,8,8,8,8,8,8,8,8,8,8,8,8,8,8,8,8,8,8,8,8,8,8,8,8,8,8,8,8,8,8,8,8,8,8,8,8,8,8,8,8,8,8,8,8,8,8,8,8,8,8,8,8,8,8,8,8,8,8,8,8,8,8,8]}:ByteArray).size):1<=(({data:=#[0,1,2,2,3,3,3,3,4,4,4,4,4,4,4,4,5,5,5,5,5,5,5,5,5,5,5,5,5,5,5,5,6,6,6,6,6,6,6,6,6,6,6,6,6,6,6,6,6,6,6,6,6,6,6,6,6,6,6,6,6,6,6,6,7,7,7,7,7,7,7,7,7,7,7,7,7,7,7,7,7,7,7,7,7,7,7,7,7,7,7,7,7,7,7,7,7,7,7,7,7,7,7,7,7,7,7,7,7,7,7,7,7,7,7,7,7,7,7,7,7,7,7,7,7,7,7,7,8,8,8,8,8,8,8,8,8,8,8,8,8,8,8,8,8,8,8,8,8,8,8,8,8,8,8,8,8,8,8,8,8,8,8,8,8,8,8,8,8,8,8,8,8,8,8,8,8,8,8,8,8,8,8,8,8,8,8,8,8,8,8,8,8,8,8,8,8,8,8,8,8,8,8,8,8,8,8,8,8,8,8,8,8,8,8,8,8,8,8,8,8,8,8,8,8,8,8,8,8,8,8,8,8,8,8,8,8,8,8,8,8,8,8,8,8,8,8,8,8,8,8,8,8,8,8,8]}:ByteArray)[i]'h).toNat/\(({data:=#[0,1,2,2,3,3,3,3,4,4,4,4,4,4,4,4,5,5,5,5,5,5,5,5,5,5,5,5,5,5,5,5,6,6,6,6,6,6,6,6,6,6,6,6,6,6,6,6,6,6,6,6,6,6,6,6,6,6,6,6,6,6,6,6,7,7,7,7,7,7,7,7,7,7,7,7,7,7,7,7,7,7,7,7,7,7,7,7,7,7,7,7,7,7,7,7,7,7,7,7,7,7,7,7,7,7,7,7,7,7,7,7,7,7,7,7,7,7,7,7,7,7,7,7,7,7,7,7,8,8,8,8,8,8,8,8,8,8,8,8,8,8,8,8,8,8,8,8,8,8,8,8,8,8,8,8,8,8,8,8,8,8,8,8,8,8,8,8,8,8,8,8,8,8,8,8,8,8,8,8,8,8,8,8,8,8,8,8,8,8,8,8,8,8,8,8,8,8,8,8,8,8,8,8,8,8,8,8,8,8,8,8,8,8,8,8,8,8,8,8,8,8,8,8,8,8,8,8,8,8,8,8,8,8,8,8,8,8,8,8,8,8,8,8,8,8,8,8,8,8,8,8,8,8,8,8]}:ByteArray)[i]'h).toNat<=8/\2^((({data:=#[0,1,2,2,3,3,3,3,4,4,4,4,4,4,4,4,5,5,5,5,5,5,5,5,5,5,5,5,5,5,5,5,6,6,6,6,6,6,6,6,6,6,6,6,6,6,6,6,6,6,6,6,6,6,6,6,6,6,6,6,6,6,6,6,7,7,7,7,7,7,7,7,7,7,7,7,7,7,7,7,7,7,7,7,7,7,7,7,7,7,7,7,7,7,7,7,7,7,7,7,7,7,7,7,7,7,7,7,7,7,7,7,7,7,7,7,7,7,7,7,7,7,7,7,7,7,7,7,8,8,8,8,8,8,8,8,8,8,8,8,8,8,8,8,8,8,8,8,8,8,8,8,8,8,8,8,8,8,8,8,8,8,8,8,8,8,8,8,8,8,8,8,8,8,8,8,8,8,8,8,8,8,8,8,8,8,8,8,8,8,8,8,8,8,8,8,8,8,8,8,8,8,8,8,8,8,8,8,8,8,8,8,8,8,8,8,8,8,8,8,8,8,8,8,8,8,8,8,8,8,8,8,8,8,8,8,8,8,8,8,8,8,8,8,8,8,8,8,8,8,8,8,8,8,8,8]}:ByteArray)[i]'h).toNat-1)<=k/\k<2^(({data:=#[0,1,2,2,3,3,3,3,4,4,4,4,4,4,4,4,5,5,5,5,5,5,5,5,5,5,5,5,5,5,5,5,6,6,6,6,6,6,6,6,6,6,6,6,6,6,6,6,6,6,6,6,6,6,6,6,6,6,6,6,6,6,6,6,7,7,7,7,7,7,7,7,7,7,7,7,7,7,7,7,7,7,7,7,7,7,7,7,7,7,7,7,7,7,7,7,7,7,7,7,7,7,7,7,7,7,7,7,7,7,7,7,7,7,7,7,7,7,7,7,7,7,7,7,7,7,7,7,8,8,8,8,8,8,8,8,8,8,8,8,8,8,8,8,8,8,8,8,8,8,8,8,8,8,8,8,8,8,8,8,8,8,8,8,8,8,8,8,8,8,8,8,8,8,8,8,8,8,8,8,8,8,8,8,8,8,8,8,8,8,8,8,8,8,8,8,8,8,8,8,8,8,8,8,8,8,8,8,8,8,8,8,8,8,8,8,8,8,8,8,8,8,8,8,8,8,8,8,8,8,8,8,8,8,8,8,8,8,8,8,8,8,8,8,8,8,8,8,8,8,8,8,8,8,8,8]}:ByteArray)[i]'h).toNat:=by
 subst hi
 exact tab_all ⟨i,h2⟩ h1
theorem len_end{x n y T:Nat}(hn:n<=56)(hy:y=x/2^n)(h:1<=T/\T<=8/\2^(T-1)<=y/\y<2^T):∃m:Nat,wrap64 ((n:Int)+wrap64 (T:Int))=(m:Int)/\LenOf x m:=by
 have e1:wrap64 (T:Int)=T:=by rw[wrap64];omega
 have e2:wrap64 ((n:Int)+(T:Int))=((T+n:Nat):Int):=by rw[wrap64];omega
 refine⟨T+n,by rw[e1,e2],LenOf.up ?_ (by omega)⟩
 rw[<-hy]
 exact⟨h.1,by omega,h.2.2⟩
theorem len64_any(x:Nat)(hx1:1<=x)(hx:x<18446744073709551616)(w:World):
  Calls Tryz.prog 166 #[.int .u64 x] w λe w'=>∃n:Nat,e=.returned (.int .i64 n)/\LenOf x n/\w=w':=by
 go_enter Tryz.func166,Tryz.ntmps166
 refine wp_seq_k ?_
 intro K0 hK0
 go_cut [0,2] from 0 to 0 (λs0 s2 wx=>s0=.int .u64 x/\s2=.int .i64 0/\w=wx)
 case first=>
  clear hK0 K0
  go_wp2_with fail
  go_meet
  exact⟨rfl,rfl,rfl⟩
 case rest=>
 obtain⟨rfl,rfl,rfl⟩:=hcut
 apply hK0
 clear hK0 K0
 refine wp_seq_k ?_
 intro K1 hK1
 go_cut [0,2] from 1 to 3 (λs0 s2 wx=>∃n y:Nat,n<=32/\Hid (y=x/2^n)/\1<=y/\y<4294967296/\s0=.int .u64 y/\s2=.int .i64 n/\w=wx)
 case first=>
  clear hK1 K1
  by_cases hc:4294967296<=x
  ·have hci:(4294967296:Int)<=(x:Int):=by omega
   go_wp2_with fail
   go_meet
   exact⟨32,x/2^32,by omega,aZ rfl,by omega,by omega,by congr 1,rfl,rfl⟩
  ·have hci:¬(4294967296:Int)<=(x:Int):=by omega
   go_wp2_with fail
   go_meet
   exact⟨0,x,by omega,aZ (by simp),hx1,by omega,rfl,rfl,rfl⟩
 case rest=>
 obtain⟨n1,y1,hn1,hy1,h11,h12,rfl,rfl,rfl⟩:=hcut
 apply hK1
 clear hK1 K1
 refine wp_seq_k ?_
 intro K2 hK2
 go_cut [0,2] from 4 to 6 (λs0 s2 wx=>∃n y:Nat,n<=48/\Hid (y=x/2^n)/\1<=y/\y<65536/\s0=.int .u64 y/\s2=.int .i64 n/\w=wx)
 case first=>
  clear hK2 K2
  by_cases hc:65536<=y1
  ·have hci:(65536:Int)<=(y1:Int):=by omega
   go_wp2_with fail
   go_meet
   exact⟨n1+16,y1/2^16,by omega,aZ (by rw[hy1.out,Nat.div_div_eq_div_mul,Nat.pow_add]),by omega,by omega,by congr 1,by congr 1,rfl⟩
  ·have hci:¬(65536:Int)<=(y1:Int):=by omega
   go_wp2_with fail
   go_meet
   exact⟨n1,y1,by omega,hy1,h11,by omega,rfl,rfl,rfl⟩
 case rest=>
 obtain⟨n2,y2,hn2,hy2,h21,h22,rfl,rfl,rfl⟩:=hcut
 apply hK2
 clear hK2 K2 hy1 h11 h12
 refine wp_seq_k ?_
 intro K3 hK3
 go_cut [0,2] from 7 to 9 (λs0 s2 wx=>∃n y:Nat,n<=56/\Hid (y=x/2^n)/\1<=y/\y<256/\s0=.int .u64 y/\s2=.int .i64 n/\w=wx)
 case first=>
  clear hK3 K3
  by_cases hc:256<=y2
  ·have hci:(256:Int)<=(y2:Int):=by omega
   go_wp2_with fail
   go_meet
   exact⟨n2+8,y2/2^8,by omega,aZ (by rw[hy2.out,Nat.div_div_eq_div_mul,Nat.pow_add]),by omega,by omega,by congr 1,by congr 1,rfl⟩
  ·have hci:¬(256:Int)<=(y2:Int):=by omega
   go_wp2_with fail
   go_meet
   exact⟨n2,y2,by omega,hy2,h21,by omega,rfl,rfl,rfl⟩
 case rest=>
 obtain⟨n3,y3,hn3,hy3,h31,h32,rfl,rfl,rfl⟩:=hcut
 apply hK3
 clear hK3 K3 hy2 h21 h22
 go_wp2_with fail
 obtain⟨m,hm,hl⟩:=len_end hn3 hy3.out (tab_ok y3 h31 h32 y3 rfl h32)
 refine bodyPost_ret (v:=.int .i64 m) ?_ rfl ⟨m,rfl,hl,rfl⟩
 simp[results,Tryz.results166,go_sem]
 exact hm
end Go.Proofs.YtfedabinindpbaaGreat
