/- Complex floats against complex numbers: how far off one operation is. -/
import Derived.Test.YtfedabinindpbaaGreatMQ2
import Derived.Test.YtfedabinindpbaaGreatTB
import Derived.Test.YtfedabinindpbaaGreatMA1
import Derived.Test.YtfedabinindpbaaGreatTG
set_option linter.unusedSimpArgs false
set_option linter.unusedVariables false
namespace Go.Proofs.YtfedabinindpbaaGreat
namespace CG
open Fl
@[irreducible] def ul:Rat:=(((2^U:Nat):Nat):Rat)⁻¹
@[irreducible] def om:Rat:=(((2^Bt:Nat):Nat):Rat)*ul
@[irreducible] def uu:Rat:=1/9007199254740992
theorem ul_unit:ul*(((2^U:Nat):Nat):Rat)=1/\0<ul:=by
 have h:(0:Rat)<(((2^U:Nat):Nat):Rat):=Rat.natCast_pos.2 (Nat.pow_pos (by decide))
 unfold ul
 exact⟨Rat.inv_mul_cancel _ (by grind),Rat.inv_pos.2 h⟩
theorem uu_eq:uu*9007199254740992=1/\0<uu:=by unfold uu;constructor<;>grind
theorem om_eq:om=(((2^Bt:Nat):Nat):Rat)*ul:=by unfold om;rfl
def rv(x:Nat):Rat:=(iv x:Rat)*ul
theorem abs_lt{n:Int}{B:Nat}(h1:(n:Rat)*ul<(B:Rat)*ul)(h2:-((B:Rat)*ul)<(n:Rat)*ul):n.natAbs<B:=by
 have hu:=ul_unit.2
 have a:n<B:=by
  apply Classical.byContradiction
  intro hc
  have h3:(B:Int)<=n:=by omega
  have h4:=Rat.intCast_le_intCast.2 h3
  rw[Rat.intCast_natCast] at h4
  have:=Rat.mul_nonneg (a:=(n:Rat)-(B:Rat)) (b:=ul) (by grind) (by grind)
  grind
 have b:-(B:Int)<n:=by
  apply Classical.byContradiction
  intro hc
  have h3:n<=-(B:Int):=by omega
  have h4:=Rat.intCast_le_intCast.2 h3
  rw[Rat.intCast_neg,Rat.intCast_natCast] at h4
  have:=Rat.mul_nonneg (a:=-(B:Rat)-(n:Rat)) (b:=ul) (by grind) (by grind)
  grind
 omega
theorem sq_of_abs{C d n:Rat}(h1:C*d<=n)(h2:-(C*d)<=n):C*d*(C*d)<=n*n:=by
 have:=Rat.mul_nonneg (a:=n-C*d) (b:=n+C*d) (by grind) (by grind)
 grind
theorem abs_cast(n:Int):(((n.natAbs:Nat):Int):Rat)*(((n.natAbs:Nat):Int):Rat)=(n:Rat)*(n:Rat):=by
 have h:((n.natAbs:Nat):Int)*((n.natAbs:Nat):Int)=n*n:=by rw[<-Int.natCast_mul];exact Int.natAbs_mul_self
 rw[<-Rat.intCast_mul,h,Rat.intCast_mul]
theorem add_ok{x y:Nat}(hx:Fnt x)(hy:Fnt y)(h1:rv x+rv y<om)(h2:-om<rv x+rv y):
  Fnt (fA x y)/\(rv (fA x y)-(rv x+rv y))*(rv (fA x y)-(rv x+rv y))<=uu*uu*((rv x+rv y)*(rv x+rv y)):=by
 have hu:=ul_unit.2
 have e:rv x+rv y=((iv x+iv y:Int):Rat)*ul:=by unfold rv;rw[Rat.intCast_add];grind
 rw[om_eq,e] at h1 h2
 obtain⟨z,hz,fz,vz⟩:=fadd_spec hx hy (abs_lt h1 h2)
 have ez:fA x y=z:=by
  have:fadd x y=Ieee.double.add x y:=rfl
  unfold fA fN
  rw[<-this,hz];rfl
 rw[ez]
 refine⟨fz,?_⟩
 obtain⟨r1,r2⟩:=rnd_rel (iv x+iv y)
 have e2:rv z-(rv x+rv y)=((iv z-(iv x+iv y):Int):Rat)*ul:=by rw[e];unfold rv;rw[Rat.intCast_sub];grind
 rw[e2,e,vz]
 generalize iv x+iv y=n at*
 have r2':2^53*-(rnd n-n)<=(n.natAbs:Int):=by omega
 clear r2
 generalize rnd n-n=d at*
 have s1:=Rat.intCast_le_intCast.2 r1
 have s2:=Rat.intCast_le_intCast.2 r2'
 have ec:((2^53:Int):Rat)=9007199254740992:=rfl
 rw[Rat.intCast_mul,ec] at s1 s2
 rw[Rat.intCast_neg] at s2
 have s3:=sq_of_abs (C:=9007199254740992) (d:=(d:Rat)) s1 (by grind)
 rw[abs_cast] at s3
 have hq:=uu_eq.1
 have s4:=Rat.mul_nonneg (a:=(n:Rat)*(n:Rat)-9007199254740992*(d:Rat)*(9007199254740992*(d:Rat))) (b:=uu*uu*(ul*ul)) (by grind) (Rat.mul_nonneg (Rat.mul_nonneg (by have:=uu_eq.2;grind) (by have:=uu_eq.2;grind)) (Rat.mul_nonneg (by grind) (by grind)))
 have e5:uu*uu*(9007199254740992*(d:Rat)*(9007199254740992*(d:Rat)))=(d:Rat)*(d:Rat):=by
  have:uu*uu*(9007199254740992*(d:Rat)*(9007199254740992*(d:Rat)))=(uu*9007199254740992)*(uu*9007199254740992)*((d:Rat)*(d:Rat)):=by grind
  rw[this,hq];grind
 have e6:uu*uu*(9007199254740992*(d:Rat)*(9007199254740992*(d:Rat)))*(ul*ul)=(d:Rat)*(d:Rat)*(ul*ul):=by rw[e5]
 grind
theorem sub_ok{x y:Nat}(hx:Fnt x)(hy:Fnt y)(h1:rv x-rv y<om)(h2:-om<rv x-rv y):
  Fnt (fS x y)/\(rv (fS x y)-(rv x-rv y))*(rv (fS x y)-(rv x-rv y))<=uu*uu*((rv x-rv y)*(rv x-rv y)):=by
 have hu:=ul_unit.2
 have e:rv x-rv y=((iv x-iv y:Int):Rat)*ul:=by unfold rv;rw[Rat.intCast_sub];grind
 rw[om_eq,e] at h1 h2
 obtain⟨z,hz,fz,vz⟩:=fsub_spec hx hy (abs_lt h1 h2)
 have ez:fS x y=z:=by
  have:fsub x y=Ieee.double.sub x y:=rfl
  unfold fS fN
  rw[<-this,hz];rfl
 rw[ez]
 refine⟨fz,?_⟩
 obtain⟨r1,r2⟩:=rnd_rel (iv x-iv y)
 have e2:rv z-(rv x-rv y)=((iv z-(iv x-iv y):Int):Rat)*ul:=by rw[e];unfold rv;rw[Rat.intCast_sub];grind
 rw[e2,e,vz]
 generalize iv x-iv y=n at*
 have r2':2^53*-(rnd n-n)<=(n.natAbs:Int):=by omega
 clear r2
 generalize rnd n-n=d at*
 have s1:=Rat.intCast_le_intCast.2 r1
 have s2:=Rat.intCast_le_intCast.2 r2'
 have ec:((2^53:Int):Rat)=9007199254740992:=rfl
 rw[Rat.intCast_mul,ec] at s1 s2
 rw[Rat.intCast_neg] at s2
 have s3:=sq_of_abs (C:=9007199254740992) (d:=(d:Rat)) s1 (by grind)
 rw[abs_cast] at s3
 have hq:=uu_eq.1
 have s4:=Rat.mul_nonneg (a:=(n:Rat)*(n:Rat)-9007199254740992*(d:Rat)*(9007199254740992*(d:Rat))) (b:=uu*uu*(ul*ul)) (by grind) (Rat.mul_nonneg (Rat.mul_nonneg (by have:=uu_eq.2;grind) (by have:=uu_eq.2;grind)) (Rat.mul_nonneg (by grind) (by grind)))
 have e5:uu*uu*(9007199254740992*(d:Rat)*(9007199254740992*(d:Rat)))=(d:Rat)*(d:Rat):=by
  have:uu*uu*(9007199254740992*(d:Rat)*(9007199254740992*(d:Rat)))=(uu*9007199254740992)*(uu*9007199254740992)*((d:Rat)*(d:Rat)):=by grind
  rw[this,hq];grind
 have e6:uu*uu*(9007199254740992*(d:Rat)*(9007199254740992*(d:Rat)))*(ul*ul)=(d:Rat)*(d:Rat)*(ul*ul):=by rw[e5]
 grind
theorem mul_ok{x y:Nat}(hx:Fnt x)(hy:Fnt y)(h1:rv x*rv y<om)(h2:-om<rv x*rv y):
  Fnt (fM x y)/\(rv (fM x y)-rv x*rv y)*(rv (fM x y)-rv x*rv y)<=2*(uu*uu*(rv x*rv y*(rv x*rv y)))+ul*ul:=by
 obtain⟨ux,hu⟩:=ul_unit
 have e:rv x*rv y=((iv x*iv y:Int):Rat)*ul*ul:=by unfold rv;rw[Rat.intCast_mul];grind
 have hb:(iv x*iv y).natAbs<2^(Bt+U):=by
  have e0:((2^(Bt+U):Nat):Rat)*ul=((2^Bt:Nat):Rat):=by rw[Nat.pow_add,Rat.natCast_mul];grind
  have hom:om*1=((2^(Bt+U):Nat):Rat)*ul*ul:=by rw[e0,om_eq];grind
  refine abs_lt ?_ ?_
  ·apply Classical.byContradiction
   intro hc
   have:=Rat.mul_nonneg (a:=((iv x*iv y:Int):Rat)*ul-((2^(Bt+U):Nat):Rat)*ul) (b:=ul) (by grind) (by grind)
   grind
  ·apply Classical.byContradiction
   intro hc
   have:=Rat.mul_nonneg (a:=-(((2^(Bt+U):Nat):Rat)*ul)-((iv x*iv y:Int):Rat)*ul) (b:=ul) (by grind) (by grind)
   grind
 obtain⟨z,hz,fz,r1,r2⟩:=T.fmul_rel hx hy hb
 have ez:fM x y=z:=by
  have:fmul x y=Ieee.double.mul x y:=rfl
  unfold fM fN
  rw[<-this,hz];rfl
 rw[ez]
 refine⟨fz,?_⟩
 have e2:rv z-rv x*rv y=((iv z*2^U-iv x*iv y:Int):Rat)*ul*ul:=by
  have eu:((2^U:Int):Rat)=((2^U:Nat):Rat):=by rw[<-Rat.intCast_natCast,Int.natCast_pow];rfl
  rw[e]
  unfold rv
  rw[Rat.intCast_sub,Rat.intCast_mul,Rat.intCast_mul,eu]
  have:((iv z:Rat)*((2^U:Nat):Rat)-(iv x:Rat)*(iv y:Rat))*ul*ul=(iv z:Rat)*ul*(ul*((2^U:Nat):Rat))-(iv x:Rat)*(iv y:Rat)*ul*ul:=by grind
  rw[this,ux]
  grind
 have hU:(0:Int)<2^U:=by have:=Nat.pow_pos (n:=U) (show 0<2 by decide);have e:((2^U:Nat):Int)=2^U:=Int.natCast_pow _ _;omega
 have euu:((2^U:Int):Rat)*ul=1:=by
  have eu:((2^U:Int):Rat)=((2^U:Nat):Rat):=by rw[<-Rat.intCast_natCast,Int.natCast_pow];rfl
  rw[eu];grind
 rw[e2,e]
 generalize iv x*iv y=n at*
 have r2':2^53*-(iv z*2^U-n)<=(n.natAbs:Int)+2^52*2^U:=by omega
 clear r2
 generalize iv z*2^U-n=d at*
 generalize (2:Int)^U=P at*
 have s1:=Rat.intCast_le_intCast.2 r1
 have s2:=Rat.intCast_le_intCast.2 r2'
 have ec:((2^53:Int):Rat)=9007199254740992:=rfl
 have ed:((2^52:Int):Rat)=4503599627370496:=rfl
 rw[Rat.intCast_mul,Rat.intCast_add,Rat.intCast_mul,ec,ed] at s1 s2
 rw[Rat.intCast_neg] at s2
 have s3:=sq_of_abs (C:=9007199254740992) (d:=(d:Rat)) s1 (by grind)
 have ha:=abs_cast n
 generalize (((n.natAbs:Nat):Int):Rat)=N at*
 have s5:=ratsq (N-4503599627370496*(P:Rat))
 have hq:=uu_eq.1
 have s6:9007199254740992*(d:Rat)*(9007199254740992*(d:Rat))<=2*((n:Rat)*(n:Rat))+2*(4503599627370496*(P:Rat)*(4503599627370496*(P:Rat))):=by grind
 have s4:=Rat.mul_nonneg (a:=2*((n:Rat)*(n:Rat))+2*(4503599627370496*(P:Rat)*(4503599627370496*(P:Rat)))-9007199254740992*(d:Rat)*(9007199254740992*(d:Rat))) (b:=uu*uu*(ul*ul*(ul*ul))) (by grind) (Rat.mul_nonneg (Rat.mul_nonneg (by have:=uu_eq.2;grind) (by have:=uu_eq.2;grind)) (Rat.mul_nonneg (Rat.mul_nonneg (by grind) (by grind)) (Rat.mul_nonneg (by grind) (by grind))))
 have e5:uu*uu*(9007199254740992*(d:Rat)*(9007199254740992*(d:Rat)))=(d:Rat)*(d:Rat):=by
  have:uu*uu*(9007199254740992*(d:Rat)*(9007199254740992*(d:Rat)))=(uu*9007199254740992)*(uu*9007199254740992)*((d:Rat)*(d:Rat)):=by grind
  rw[this,hq];grind
 have e6:uu*uu*(9007199254740992*(d:Rat)*(9007199254740992*(d:Rat)))*(ul*ul*(ul*ul))=(d:Rat)*(d:Rat)*(ul*ul*(ul*ul)):=by rw[e5]
 have e7:uu*uu*(4503599627370496*(P:Rat)*(4503599627370496*(P:Rat)))*(ul*ul*(ul*ul))=1/4*(ul*ul):=by
  have:uu*uu*(4503599627370496*(P:Rat)*(4503599627370496*(P:Rat)))*(ul*ul*(ul*ul))=(uu*9007199254740992)*(uu*9007199254740992)*(((P:Rat)*ul)*((P:Rat)*ul))*(1/4)*(ul*ul):=by grind
  rw[this,hq,euu];grind
 have h0:0<=ul*ul:=Rat.mul_nonneg (by grind) (by grind)
 grind
end CG
end Go.Proofs.YtfedabinindpbaaGreat
namespace Go.Proofs.YtfedabinindpbaaGreat
namespace CG
open Fl
theorem nz_fnt{x:Nat}(h:Fnt x):nz x=x:=by
 refine nz_of ?_
 obtain⟨s,m,k,e,-⟩:=read_fin h
 have:Ieee.double.read x=.number s m ((k:Int)-1074):=e
 unfold isN
 rw[this]
 rfl
theorem ul_one:ul<=1/\1<=om:=by
 obtain⟨h1,h2⟩:=ul_unit
 have hp:(1:Rat)<=(((2^U:Nat):Nat):Rat):=by
  have:1<=2^U:=Nat.pow_pos (by decide)
  have:=Rat.natCast_le_natCast.2 this
  exact this
 have hq:(((2^U:Nat):Nat):Rat)<=(((2^Bt:Nat):Nat):Rat):=Rat.natCast_le_natCast.2 (Nat.pow_le_pow_right (by decide) (by rw[U_eq,Bt_eq];decide))
 have a:=Rat.mul_nonneg (a:=(((2^U:Nat):Nat):Rat)-1) (b:=ul) (by grind) (by grind)
 have b:=Rat.mul_nonneg (a:=(((2^Bt:Nat):Nat):Rat)-(((2^U:Nat):Nat):Rat)) (b:=ul) (by grind) (by grind)
 rw[om_eq]
 constructor<;>grind
theorem uu_small:0<uu/\uu<=1/1000000000000:=by have:=uu_eq;constructor<;>grind
theorem div_ok{x:Nat}{n:Nat}(hx:Fnt x)(n1:1<=n)(n2:n<=65536)(h1:rv x<om/8)(h2:-(om/8)<rv x):
  Fnt (fD x (nz (floatOfInt .f64 n)))/\(rv (fD x (nz (floatOfInt .f64 n)))*(n:Rat)-rv x)*(rv (fD x (nz (floatOfInt .f64 n)))*(n:Rat)-rv x)<=8*(uu*uu*(rv x*rv x))+(n:Rat)*(n:Rat)*(ul*ul):=by
 obtain⟨ux,hu⟩:=ul_unit
 obtain⟨fw,vw⟩:=T.whole_spec (n:Int) (by omega) (by omega) rfl
 have vw':iv (floatOfInt .f64 (n:Int))=(n:Int)*((2^U:Nat):Int):=vw
 have fw':Fnt (floatOfInt .f64 (n:Int)):=fw
 rw[nz_fnt fw']
 generalize floatOfInt .f64 (n:Int)=y at*
 clear fw vw
 have hU0:0<2^U:=Nat.pow_pos (by decide)
 have hn0:(1:Int)<=n:=by omega
 have hpos:0<(n:Int)*((2^U:Nat):Int):=Int.mul_pos (by omega) (by omega)
 have hb:4*((iv x).natAbs*2^U)<(iv y).natAbs*2^Bt:=by
  have h3:(iv x).natAbs*8<2^Bt:=by
   have e8:((2^Bt:Nat):Rat)*ul=om:=by rw[om_eq]
   have:(iv x*8).natAbs<2^Bt:=abs_lt (by rw[Rat.intCast_mul,e8];unfold rv at h1;have:((8:Int):Rat)=8:=rfl;rw[this];grind) (by rw[Rat.intCast_mul,e8];unfold rv at h2;have:((8:Int):Rat)=8:=rfl;rw[this];grind)
   rw[Int.natAbs_mul] at this
   exact this
  have h4:(iv y).natAbs=n*2^U:=by rw[vw',Int.natAbs_mul];simp
  rw[h4]
  generalize 2^U=P at*
  generalize 2^Bt=Q at*
  have h5:=Nat.mul_lt_mul_of_pos_right (show 4*(iv x).natAbs<Q by omega) hU0
  have h6:=Nat.mul_le_mul_right (P*Q) n1
  have e1:n*P*Q=n*(P*Q):=Nat.mul_assoc _ _ _
  have e2:4*((iv x).natAbs*P)=4*(iv x).natAbs*P:=(Nat.mul_assoc _ _ _).symm
  have e3:Q*P=P*Q:=Nat.mul_comm _ _
  omega
 obtain⟨z,hz,fz,r1,r2⟩:=T.fdiv_rel hx fw' (by omega) hb
 have ez:fD x y=z:=by
  have:fdiv x y=Ieee.double.div x y:=rfl
  unfold fD fN
  rw[<-this,hz];rfl
 rw[ez]
 refine⟨fz,?_⟩
 have eu:((2^U:Int):Rat)=((2^U:Nat):Rat):=by rw[<-Rat.intCast_natCast,Int.natCast_pow];rfl
 have eu2:(((2^U:Nat):Int):Int)=2^U:=Int.natCast_pow _ _
 have hab:(iv y).natAbs=n*2^U:=by rw[vw',Int.natAbs_mul];simp
 rw[vw',eu2] at r1 r2
 have hab2:((((n:Int)*(2:Int)^U).natAbs:Nat):Int)=(n:Int)*2^U:=by
  have:0<=(n:Int)*(2:Int)^U:=by rw[<-eu2];omega
  omega
 rw[hab2] at r1 r2
 have e2:rv z*(n:Rat)-rv x=((iv z*(n*2^U)-iv x*2^U:Int):Rat)*ul*ul:=by
  unfold rv
  rw[Rat.intCast_sub,Rat.intCast_mul,Rat.intCast_mul,Rat.intCast_mul,eu,Rat.intCast_natCast]
  have:((iv z:Rat)*((n:Rat)*((2^U:Nat):Rat))-(iv x:Rat)*((2^U:Nat):Rat))*ul*ul=((iv z:Rat)*(n:Rat)-(iv x:Rat))*ul*(ul*((2^U:Nat):Rat)):=by grind
  rw[this,ux]
  grind
 have e3:rv x=((iv x:Rat)*((2^U:Int):Rat))*ul*ul:=by
  rw[eu]
  have:(iv x:Rat)*((2^U:Nat):Rat)*ul*ul=(iv x:Rat)*ul*(ul*((2^U:Nat):Rat)):=by grind
  rw[this,ux]
  unfold rv
  grind
 rw[e2,e3]
 have r2':2^52*-(iv z*(n*2^U)-iv x*2^U)<=((iv x).natAbs:Int)*2^U+2^51*(n*2^U):=by
  generalize iv z*(n*(2:Int)^U)=a at*
  generalize iv x*(2:Int)^U=b at*
  omega
 clear r2
 generalize iv z*(n*(2:Int)^U)-iv x*2^U=d at*
 have s1:=Rat.intCast_le_intCast.2 r1
 have s2:=Rat.intCast_le_intCast.2 r2'
 have ec:((2^52:Int):Rat)=4503599627370496:=rfl
 have ed:((2^51:Int):Rat)=2251799813685248:=rfl
 rw[Rat.intCast_mul,Rat.intCast_add,Rat.intCast_mul,Rat.intCast_mul,Rat.intCast_mul,ec,ed,Rat.intCast_natCast] at s1 s2
 rw[Rat.intCast_neg] at s2
 have ha:=abs_cast (iv x)
 rw[Rat.intCast_natCast] at ha
 have euu:((2^U:Int):Rat)*ul=1:=by rw[eu];grind
 generalize ((2^U:Int):Rat)=P at*
 rw[Rat.intCast_natCast n] at s1 s2
 generalize (((iv x).natAbs:Nat):Rat)=N at*
 generalize ((iv x:Int):Rat)=X at*
 have s3:=sq_of_abs (C:=4503599627370496) (d:=(d:Rat)) s1 (by grind)
 have s5:=ratsq (N*P-2251799813685248*((n:Rat)*P))
 have hq:=uu_eq.1
 have s6:4503599627370496*(d:Rat)*(4503599627370496*(d:Rat))<=2*(X*P*(X*P))+2*(2251799813685248*((n:Rat)*P)*(2251799813685248*((n:Rat)*P))):=by
  have:N*P*(N*P)=X*P*(X*P):=by
   have e:N*P*(N*P)=N*N*(P*P):=by grind
   rw[e,ha];grind
  grind
 have h0:0<=ul*ul:=Rat.mul_nonneg (by grind) (by grind)
 have h00:0<=uu*uu:=Rat.mul_nonneg (by have:=uu_eq.2;grind) (by have:=uu_eq.2;grind)
 have s4:=Rat.mul_nonneg (a:=2*(X*P*(X*P))+2*(2251799813685248*((n:Rat)*P)*(2251799813685248*((n:Rat)*P)))-4503599627370496*(d:Rat)*(4503599627370496*(d:Rat))) (b:=4*(uu*uu)*(ul*ul*(ul*ul))) (by grind) (Rat.mul_nonneg (by grind) (Rat.mul_nonneg h0 h0))
 have e5:4*(uu*uu)*(4503599627370496*(d:Rat)*(4503599627370496*(d:Rat)))*(ul*ul*(ul*ul))=(d:Rat)*(d:Rat)*(ul*ul*(ul*ul)):=by
  have:4*(uu*uu)*(4503599627370496*(d:Rat)*(4503599627370496*(d:Rat)))*(ul*ul*(ul*ul))=(uu*9007199254740992)*(uu*9007199254740992)*((d:Rat)*(d:Rat)*(ul*ul*(ul*ul))):=by grind
  rw[this,hq];grind
 have e7:4*(uu*uu)*(2*(2251799813685248*((n:Rat)*P)*(2251799813685248*((n:Rat)*P))))*(ul*ul*(ul*ul))=1/2*((n:Rat)*(n:Rat)*(ul*ul)):=by
  have:4*(uu*uu)*(2*(2251799813685248*((n:Rat)*P)*(2251799813685248*((n:Rat)*P))))*(ul*ul*(ul*ul))=(uu*9007199254740992)*(uu*9007199254740992)*((P*ul)*(P*ul))*(1/2)*((n:Rat)*(n:Rat)*(ul*ul)):=by grind
  rw[this,hq,euu];grind
 have h8:0<=(n:Rat)*(n:Rat)*(ul*ul):=Rat.mul_nonneg (ratsq _) h0
 grind
def FinC(c:Cx):Prop:=Fnt c.1/\Fnt c.2
def vC(c:Cx):CC:=⟨RR.of (rv c.1),RR.of (rv c.2)⟩
def nq(c:Cx):Rat:=rv c.1*rv c.1+rv c.2*rv c.2
theorem nsq_vC(c:Cx):nsq (vC c)=RR.of (nq c):=rfl
theorem lt_of_sq{s m:Rat}(hm:0<m)(h:s*s<=m*m/256):s<m/8/\-(m/8)<s:=by
 constructor
 ·apply Classical.byContradiction
  intro hc
  have a:=Rat.mul_nonneg (a:=s-m/8) (b:=s-m/8) (by grind) (by grind)
  have b:=Rat.mul_nonneg (a:=s-m/8) (b:=m) (by grind) (by grind)
  have:=Rat.mul_pos hm hm
  grind
 ·apply Classical.byContradiction
  intro hc
  have a:=Rat.mul_nonneg (a:=-s-m/8) (b:=-s-m/8) (by grind) (by grind)
  have b:=Rat.mul_nonneg (a:=-s-m/8) (b:=m) (by grind) (by grind)
  have:=Rat.mul_pos hm hm
  grind
def uR:RR:=RR.of uu
def lR:RR:=RR.of ul
def oM:RR:=RR.of (om*om/256)
theorem c_add{a b:Cx}(ha:FinC a)(hb:FinC b)(h:nsq (vC a+vC b)<=oM):FinC (cadd a b)/\nsq (vC (cadd a b)-(vC a+vC b))<=uR*uR*nsq (vC a+vC b):=by
 have hom:0<om:=by have:=ul_one.2;grind
 have h':(rv a.1+rv b.1)*(rv a.1+rv b.1)+(rv a.2+rv b.2)*(rv a.2+rv b.2)<=om*om/256:=RR.of_le.1 h
 have q1:=ratsq (rv a.1+rv b.1)
 have q2:=ratsq (rv a.2+rv b.2)
 have l1:=lt_of_sq hom (s:=rv a.1+rv b.1) (by grind)
 have l2:=lt_of_sq hom (s:=rv a.2+rv b.2) (by grind)
 obtain⟨f1,e1⟩:=add_ok ha.1 hb.1 (by grind) (by grind)
 obtain⟨f2,e2⟩:=add_ok ha.2 hb.2 (by grind) (by grind)
 refine⟨⟨f1,f2⟩,?_⟩
 have key:(rv (fA a.1 b.1)-(rv a.1+rv b.1))*(rv (fA a.1 b.1)-(rv a.1+rv b.1))+(rv (fA a.2 b.2)-(rv a.2+rv b.2))*(rv (fA a.2 b.2)-(rv a.2+rv b.2))<=uu*uu*((rv a.1+rv b.1)*(rv a.1+rv b.1)+(rv a.2+rv b.2)*(rv a.2+rv b.2)):=by grind
 have:=RR.of_le.2 key
 simp only[RR.of_add,RR.of_mul,RR.of_sub] at this
 exact this
theorem c_sub{a b:Cx}(ha:FinC a)(hb:FinC b)(h:nsq (vC a-vC b)<=oM):FinC (csub a b)/\nsq (vC (csub a b)-(vC a-vC b))<=uR*uR*nsq (vC a-vC b):=by
 have hom:0<om:=by have:=ul_one.2;grind
 have hs:nsq (vC a-vC b)=RR.of ((rv a.1-rv b.1)*(rv a.1-rv b.1)+(rv a.2-rv b.2)*(rv a.2-rv b.2)):=by
  simp only[RR.of_add,RR.of_mul,RR.of_sub];rfl
 rw[hs] at h
 have h':=RR.of_le.1 h
 have q1:=ratsq (rv a.1-rv b.1)
 have q2:=ratsq (rv a.2-rv b.2)
 have l1:=lt_of_sq hom (s:=rv a.1-rv b.1) (by grind)
 have l2:=lt_of_sq hom (s:=rv a.2-rv b.2) (by grind)
 obtain⟨f1,e1⟩:=sub_ok ha.1 hb.1 (by grind) (by grind)
 obtain⟨f2,e2⟩:=sub_ok ha.2 hb.2 (by grind) (by grind)
 refine⟨⟨f1,f2⟩,?_⟩
 have key:(rv (fS a.1 b.1)-(rv a.1-rv b.1))*(rv (fS a.1 b.1)-(rv a.1-rv b.1))+(rv (fS a.2 b.2)-(rv a.2-rv b.2))*(rv (fS a.2 b.2)-(rv a.2-rv b.2))<=uu*uu*((rv a.1-rv b.1)*(rv a.1-rv b.1)+(rv a.2-rv b.2)*(rv a.2-rv b.2)):=by grind
 have:=RR.of_le.2 key
 rw[hs]
 simp only[RR.of_add,RR.of_mul,RR.of_sub] at this|-
 exact this
theorem part_err{P1 P2 p1 p2 z U L:Rat}(hU:0<=U)(hU2:U<=1/16)(e1:(p1-P1)*(p1-P1)<=2*(U*(P1*P1))+L)(e2:(p2-P2)*(p2-P2)<=2*(U*(P2*P2))+L)(ez:(z-(p1-p2))*(z-(p1-p2))<=U*((p1-p2)*(p1-p2))):
  (z-(P1-P2))*(z-(P1-P2))<=4*(U*((P1-P2)*(P1-P2)))+10*(U*(P1*P1+P2*P2))+10*L:=by
 have h1:=ratsq ((z-(p1-p2))-((p1-P1)-(p2-P2)))
 have h2:=ratsq ((p1-P1)+(p2-P2))
 have h3:=ratsq ((P1-P2)-((p1-P1)-(p2-P2)))
 have k1:(p1-p2)*(p1-p2)<=2*((P1-P2)*(P1-P2))+4*((p1-P1)*(p1-P1)+(p2-P2)*(p2-P2)):=by grind
 have k2:=Rat.mul_nonneg (a:=U) (b:=2*((P1-P2)*(P1-P2))+4*((p1-P1)*(p1-P1)+(p2-P2)*(p2-P2))-(p1-p2)*(p1-p2)) hU (by grind)
 have q1:=ratsq (p1-P1)
 have q2:=ratsq (p2-P2)
 have k3:=Rat.mul_nonneg (a:=1/16-U) (b:=(p1-P1)*(p1-P1)+(p2-P2)*(p2-P2)) (by grind) (by grind)
 grind
theorem uu_sq:0<=uu*uu/\uu*uu<=1/16:=by
 obtain⟨h1,h2⟩:=uu_small
 refine⟨Rat.mul_nonneg (by grind) (by grind),?_⟩
 have:=Rat.mul_nonneg (a:=uu) (b:=1-uu) (by grind) (by grind)
 grind
theorem om_big:1024<=om:=by
 obtain⟨h1,h2⟩:=ul_unit
 have hp:(((2^U*1024:Nat):Nat):Rat)<=(((2^Bt:Nat):Nat):Rat):=Rat.natCast_le_natCast.2 (by
  have e:2^U*1024=2^(U+10):=by rw[Nat.pow_add]
  rw[e]
  exact Nat.pow_le_pow_right (by decide) (by rw[U_eq,Bt_eq];decide))
 rw[Rat.natCast_mul] at hp
 have e:((1024:Nat):Rat)=1024:=rfl
 rw[e] at hp
 have b:=Rat.mul_nonneg (a:=(((2^Bt:Nat):Nat):Rat)-(((2^U:Nat):Nat):Rat)*1024) (b:=ul) (by grind) (by grind)
 rw[om_eq]
 grind
theorem prod_bd{P p:Rat}(h1:P*P<=om*om/256)(e:(p-P)*(p-P)<=2*(uu*uu*(P*P))+ul*ul):p<om/2/\-(om/2)<p:=by
 obtain⟨u1,u2⟩:=uu_sq
 obtain⟨l1,l2⟩:=ul_one
 have hl:=ul_unit.2
 have hb:=om_big
 have h2:=ratsq P
 have h3:=Rat.mul_nonneg (a:=1/16-uu*uu) (b:=P*P) (by grind) h2
 have h4:=Rat.mul_nonneg (a:=1-ul) (b:=1+ul) (by grind) (by grind)
 have h5:=Rat.mul_nonneg (a:=om-1024) (b:=om) (by grind) (by grind)
 have l:=lt_of_sq (s:=P) (m:=om) (by grind) h1
 have d:(p-P)*(p-P)<=om*om/2048+1:=by grind
 constructor
 ·apply Classical.byContradiction
  intro hc
  have:=Rat.mul_nonneg (a:=p-P-3/8*om) (b:=p-P+3/8*om) (by grind) (by grind)
  grind
 ·apply Classical.byContradiction
  intro hc
  have:=Rat.mul_nonneg (a:=P-p-3/8*om) (b:=P-p+3/8*om) (by grind) (by grind)
  grind
theorem c_mul{a b:Cx}(ha:FinC a)(hb:FinC b)(h:nsq (vC a)*nsq (vC b)<=oM):FinC (cmul a b)/\nsq (vC (cmul a b)-vC a*vC b)<=14*(uR*uR*(nsq (vC a)*nsq (vC b)))+20*(lR*lR):=by
 have h':nq a*nq b<=om*om/256:=RR.of_le.1 h
 have hom:0<om:=by have:=ul_one.2;grind
 obtain⟨u1,u2⟩:=uu_sq
 unfold nq at h'
 have sq:∀x y:Rat,0<=x*y*(x*y):=λx y=>ratsq _
 have s11:=sq (rv a.1) (rv b.1)
 have s12:=sq (rv a.1) (rv b.2)
 have s21:=sq (rv a.2) (rv b.1)
 have s22:=sq (rv a.2) (rv b.2)
 have lt:∀s:Rat,s*s<=om*om/256->s<om/\-om<s:=λs hs=>by have:=lt_of_sq hom hs;constructor<;>grind
 have b11:rv a.1*rv b.1*(rv a.1*rv b.1)<=om*om/256:=by grind
 have b12:rv a.1*rv b.2*(rv a.1*rv b.2)<=om*om/256:=by grind
 have b21:rv a.2*rv b.1*(rv a.2*rv b.1)<=om*om/256:=by grind
 have b22:rv a.2*rv b.2*(rv a.2*rv b.2)<=om*om/256:=by grind
 obtain⟨f11,e11⟩:=mul_ok ha.1 hb.1 (lt _ b11).1 (lt _ b11).2
 obtain⟨f12,e12⟩:=mul_ok ha.1 hb.2 (lt _ b12).1 (lt _ b12).2
 obtain⟨f21,e21⟩:=mul_ok ha.2 hb.1 (lt _ b21).1 (lt _ b21).2
 obtain⟨f22,e22⟩:=mul_ok ha.2 hb.2 (lt _ b22).1 (lt _ b22).2
 have d11:=prod_bd b11 e11
 have d12:=prod_bd b12 e12
 have d21:=prod_bd b21 e21
 have d22:=prod_bd b22 e22
 obtain⟨fr,er⟩:=sub_ok f11 f22 (by grind) (by grind)
 obtain⟨fi,ei⟩:=add_ok f12 f21 (by grind) (by grind)
 refine⟨⟨fr,fi⟩,?_⟩
 have k1:=part_err u1 u2 e11 e22 er
 have k2:=part_err (P1:=rv a.1*rv b.2) (P2:=-(rv a.2*rv b.1)) (p1:=rv (fM a.1 b.2)) (p2:=-rv (fM a.2 b.1)) (z:=rv (fA (fM a.1 b.2) (fM a.2 b.1))) (L:=ul*ul) u1 u2 e12 (by grind) (by grind)
 have hs:nsq (vC (cmul a b)-vC a*vC b)=RR.of ((rv (fS (fM a.1 b.1) (fM a.2 b.2))-(rv a.1*rv b.1-rv a.2*rv b.2))*(rv (fS (fM a.1 b.1) (fM a.2 b.2))-(rv a.1*rv b.1-rv a.2*rv b.2))+(rv (fA (fM a.1 b.2) (fM a.2 b.1))-(rv a.1*rv b.2+rv a.2*rv b.1))*(rv (fA (fM a.1 b.2) (fM a.2 b.1))-(rv a.1*rv b.2+rv a.2*rv b.1))):=by
  simp only[RR.of_add,RR.of_mul,RR.of_sub];rfl
 have hr:14*(uR*uR*(nsq (vC a)*nsq (vC b)))+20*(lR*lR)=RR.of (14*(uu*uu*(nq a*nq b))+20*(ul*ul)):=by
  simp only[RR.of_add,RR.of_mul];rfl
 rw[hs,hr]
 refine RR.of_le.2 ?_
 unfold nq
 grind
theorem c_over{a:Cx}{n:Nat}(ha:FinC a)(n1:1<=n)(n2:n<=65536)(h:nsq (vC a)<=oM):
  FinC (cover a n)/\nsq (CC.of (n:RR)*vC (cover a n)-vC a)<=8*(uR*uR*nsq (vC a))+2*((n:RR)*(n:RR)*(lR*lR)):=by
 have h':nq a<=om*om/256:=RR.of_le.1 h
 have hom:0<om:=by have:=ul_one.2;grind
 unfold nq at h'
 have q1:=ratsq (rv a.1)
 have q2:=ratsq (rv a.2)
 have l1:=lt_of_sq hom (s:=rv a.1) (by grind)
 have l2:=lt_of_sq hom (s:=rv a.2) (by grind)
 obtain⟨f1,e1⟩:=div_ok ha.1 n1 n2 l1.1 l1.2
 obtain⟨f2,e2⟩:=div_ok ha.2 n1 n2 l2.1 l2.2
 refine⟨⟨f1,f2⟩,?_⟩
 have hs:nsq (CC.of (n:RR)*vC (cover a n)-vC a)=RR.of ((rv (fD a.1 (nz (floatOfInt .f64 n)))*(n:Rat)-rv a.1)*(rv (fD a.1 (nz (floatOfInt .f64 n)))*(n:Rat)-rv a.1)+(rv (fD a.2 (nz (floatOfInt .f64 n)))*(n:Rat)-rv a.2)*(rv (fD a.2 (nz (floatOfInt .f64 n)))*(n:Rat)-rv a.2)):=by
  have hn:(n:RR)=RR.of (n:Rat):=rfl
  simp only[RR.of_add,RR.of_mul,RR.of_sub]
  unfold nsq vC cover CC.of
  simp only[CC.sub_re,CC.sub_im,CC.mul_re,CC.mul_im]
  rw[hn]
  grind
 have hr:8*(uR*uR*nsq (vC a))+2*((n:RR)*(n:RR)*(lR*lR))=RR.of (8*(uu*uu*nq a)+2*((n:Rat)*(n:Rat)*(ul*ul))):=by
  simp only[RR.of_add,RR.of_mul];rfl
 rw[hs,hr]
 refine RR.of_le.2 ?_
 unfold nq
 grind
end CG
end Go.Proofs.YtfedabinindpbaaGreat
