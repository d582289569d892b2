/- The document's Finite of every float, Scale by 0 of every float. -/
import Derived.Test.YtfedabinindpbaaGreatX0
import Derived.Test.YtfedabinindpbaaGreatMQ4
import Derived.Laws.Closers25b
set_option maxRecDepth 100000
set_option maxHeartbeats 2000000
set_option linter.unusedSimpArgs false
set_option linter.unusedVariables false
namespace Go.Proofs.YtfedabinindpbaaGreat
open Go.RowKit Go.Lib
theorem or_lt(a b:Int):(bits .or .u64 a b).toNat<18446744073709551616:=by
 have h1:=bits_hi_u64 .or a b
 have h2:=bits_lo_u64 .or a b
 omega
def finB(x:Nat):Bool:=!decide (x%9223372036854775808/4503599627370496=2047)
theorem RFin_any(x:Nat)(hx:x<18446744073709551616)(w:World):Calls Tryz.prog 8 #[.float .f64 x] w λz w'=>z=.returned (.bool (finB x))/\w=w':=by
 have hbits:=run_bitsF
 obtain⟨e,he⟩:∃e:Int,IntKind.u64.wrap ((x:Int)*2)/9007199254740992=e:=⟨_,rfl⟩
 have HB:Hid ((e != 2047)=finB x):=aZ (by
  unfold finB
  rw[IntKind.wrap_u64] at he
  have:(e=2047)=(x%9223372036854775808/4503599627370496=2047):=propext (by omega)
  by_cases h:x%9223372036854775808/4503599627370496=2047
  ·rw[decide_eq_true h,this.symm.mp h];rfl
  ·rw[decide_eq_false h]
   have h2:e≠2047:=λk=>h (this.mp k)
   simpa using h2)
 go_enter Tryz.func8,Tryz.ntmps8
 go_wp2
 go_ret
 exact⟨congrArg (λb=>Ending.returned (Value.bool b)) HB.out,rfl⟩
theorem Parts_rng(x:Nat)(hx:x<18446744073709551616)(hf:finB x=true)(h0:x%9223372036854775808≠0)(w:World):Calls Tryz.prog 38 #[.float .f64 x] w λz w'=>(∃M E:Int,M≠0/\-9007199254740992<M/\M<9007199254740992/\-1074<=E/\E<=971/\z=.returned (.tuple #[.int .i64 M,.int .i64 E]))/\w=w':=by
 have hbits:=run_bitsF
 obtain⟨e0,he0⟩:∃e:Int,IntKind.u64.wrap ((x:Int)*2)/9007199254740992=e:=⟨_,rfl⟩
 obtain⟨m0,hm0⟩:∃q:Int,IntKind.u64.wrap ((x:Int)*4096)/4096=q:=⟨_,rfl⟩
 have hf2:x%9223372036854775808/4503599627370496≠2047:=by unfold finB at hf;simpa using hf
 have h1:0<=e0/\e0<=2046:=by rw[IntKind.wrap_u64] at he0;omega
 have h2:0<=m0/\m0<4503599627370496:=by rw[IntKind.wrap_u64] at hm0;omega
 have h3:e0=0->0<m0:=by rw[IntKind.wrap_u64] at he0 hm0;omega
 obtain⟨e,he⟩:∃e,wrap64 e0=e:=⟨_,rfl⟩
 have he1:e=e0:=by rw[<-he];unfold wrap64;omega
 obtain⟨m,hm⟩:∃m,wrap64 m0=m:=⟨_,rfl⟩
 have hm1:m=m0:=by rw[<-hm];unfold wrap64;omega
 have hs:∃s:Int,(x:Int)/9223372036854775808=s:=⟨_,rfl⟩
 obtain⟨s,hs⟩:=hs
 rw[<-he1] at h1 h3
 rw[<-hm1] at h2 h3
 have H1:=aZ (And.intro h1 (And.intro h2 h3))
 clear he1 hm1 hf hf2 h0
 go_enter Tryz.func38,Tryz.ntmps38
 go_wp2
 all_goals go_ret2
 all_goals
  refine⟨⟨_,_,?_,?_,?_,?_,?_,rfl⟩,rfl⟩
  all_goals have:=H1.out
  all_goals omega
theorem RScale0_any(x:Nat)(hx:x<18446744073709551616)(w:World):Calls Tryz.prog 13 #[.float .f64 x,.int .i64 0] w λz w'=>(∃y:Nat,y<18446744073709551616/\z=.returned (.float .f64 y))/\w=w':=by
 have hbits:=run_bitsF
 have hfrom:=run_fromF
 have C1:=aZ (λw=>RFin_any x hx w)
 have C2:=aZ (λh0 h1 w=>Parts_rng x hx h0 h1 w)
 have HZ:Hid ((FloatKind.f64.format.order x 0==some Ordering.eq)=false->x%9223372036854775808≠0):=aZ (λh e=>by
  have:x=0\/x=9223372036854775808:=by omega
  rcases this with rfl|rfl<;>exact absurd h (by decide))
 obtain⟨c0,hc0⟩:∃c,(FloatKind.f64.format.order x 0==some Ordering.eq)=c:=⟨_,rfl⟩
 rw[hc0] at HZ
 go_enter Tryz.func13,Tryz.ntmps13
 go_wp2_with fail
 refine(C1.out _).mono ?_
 rintro z w' ⟨rfl,rfl⟩
 cases hf:finB x
 ·go_wp2
  go_ret
  exact⟨⟨x,hx,rfl⟩,rfl⟩
 cases c0
 case true=>
  go_wp2
  go_ret
  exact⟨⟨x,hx,rfl⟩,rfl⟩
 obtain⟨s,hs⟩:∃s:Int,IntKind.u64.wrap ((x:Int)/9223372036854775808*9223372036854775808)=s:=⟨_,rfl⟩
 go_wp2_with fail
 refine(C2.out hf (HZ.out (by trivial)) _).mono ?_
 rintro z w' ⟨⟨M,E,h1,h2,h3,h4,h5,rfl⟩,rfl⟩
 have HM:=aZ (And.intro h1 (And.intro h2 (And.intro h3 (And.intro h4 h5))))
 clear h1 h4 h5 hf C1 C2 HZ
 go_wp2
 all_goals clear h2 h3
 all_goals
  go_loopw [8,9] (λmv ev wr=>∃m e:Int,mv=.int .i64 m/\ev=.int .i64 e/\Hid (1<=m/\m<9007199254740992/\e<=971/\-1074<=e+m)/\w=wr) (λmv _ _=>(9007199254740992-intOf mv).toNat)
 case atStart=>exact⟨_,_,rfl,rfl,aZ (by have:=HM.out;omega),rfl⟩
 case atStart=>exact⟨_,_,rfl,rfl,aZ (by have:=HM.out;omega),rfl⟩
 all_goals
  obtain⟨m,e,rfl,rfl,HI,rfl⟩:=hrel
  by_cases hlt:m<4503599627370496
  ·have h1:=HI.out.1
   have h2:-9223372036854770000<=e-1/\e-1<=971:=by have:=HI.out;omega
   have HN:Hid (1<=m*2/\m*2<9007199254740992/\e-1<=971/\-1074<=e-1+m*2):=aZ (by have:=HI.out;omega)
   go_wp2
   exact⟨⟨_,_,rfl,rfl,HN,trivial⟩,by simp only[intOf];omega⟩
  ·obtain⟨h1,h2,h3,h4⟩:=HI.out
   have h5:-9223372036854770000<=e:=by omega
   go_wp2
   all_goals go_ret
   all_goals exact⟨⟨_,or_lt _ _,rfl⟩,rfl⟩
end Go.Proofs.YtfedabinindpbaaGreat
