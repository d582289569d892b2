/- Strided places that lie within. -/
import Derived.Test.YteaimnemobnknaaMW1
set_option maxRecDepth 100000
set_option linter.unusedSimpArgs false
set_option linter.unusedVariables false
namespace Go.Proofs.Yteaimnemobnknaa
open Go.RowKit Go.Lib
def Fits(n off st cnt:Nat):Prop:=cnt=0\/off+(cnt-1)*st<n
theorem Fits.at'{n off st cnt k:Nat}(h:Fits n off st cnt)(hk:k<cnt):off+k*st<n/\k*st<n:=by
 rcases h with h|h
 ·omega
 ·have:k*st<=(cnt-1)*st:=Nat.mul_le_mul_right _ (by omega)
  omega
theorem strided_any(n off st cnt:Nat)(w:World)(hn:n<=17592186044416)(hst:1<=st)(hs2:st<=17592186044416)(hc:cnt<=17592186044416)(ho:off<=17592186044416)(h:Fits n off st cnt):
  Calls Try.prog 125 #[.int .i64 n,.int .i64 off,.int .i64 st,.int .i64 cnt] w λz w'=>z=.returned (.int .i64 0)/\w=w':=by
 have a1:¬(off:Int)<0:=by omega
 have a2:¬(cnt:Int)<0:=by omega
 have a3:¬(st:Int)<1:=by omega
 by_cases h0:cnt=0
 ·subst h0
  have a4:¬(0:Int)<((0:Nat):Int):=by omega
  clear h
  go_enter Try.func125,Try.ntmps125
  go_wp2
  go_ret
  exact⟨rfl,rfl⟩
 ·have hf:off+(cnt-1)*st<n:=h.resolve_left h0
  have a4:(0:Int)<(cnt:Int):=by omega
  have hdiv:(cnt-1)<=(n-1-off)/st:=by
   rw[Nat.le_div_iff_mul_le hst];omega
  have hlt:off<n:=by omega
  obtain⟨d,hd⟩:∃d,(n-1-off)/st=d:=⟨_,rfl⟩
  rw[hd] at hdiv
  have a5:¬(n:Int)<=(off:Int):=by omega
  have e1:(n:Int)-1-off=((n-1-off:Nat):Int):=by omega
  have e2:((n:Int)-1-off)/st=(d:Int):=by rw[e1,<-Int.natCast_ediv,hd]
  have hd2:d<=n:=by rw[<-hd];exact Nat.le_trans (Nat.div_le_self _ _) (by omega)
  have e3:wrap64 (((n:Int)-1-off)/st)=(d:Int):=by rw[e2];exact wrap64_nat d (by omega)
  have e4:0<=(n:Int)-1-off:=by omega
  have a6:¬(d:Int)<(cnt:Int)-1:=by omega
  have hst0:¬(st:Int)=0:=by omega
  have e5:((n:Int)-1-off).tdiv st=(d:Int):=by rw[Int.tdiv_eq_ediv_of_nonneg e4];exact e2
  clear h hd e1 hf
  go_enter Try.func125,Try.ntmps125
  go_wp2
  go_ret
  exact⟨rfl,rfl⟩
end Go.Proofs.Yteaimnemobnknaa
