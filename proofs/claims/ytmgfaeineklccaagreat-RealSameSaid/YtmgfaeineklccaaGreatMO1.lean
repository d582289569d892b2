/- What layer 21 does to finite numbers that are not too great gives finite ones (plain). -/
import Derived.Test.YtmgfaeineklccaaGreatMH3
import Derived.Test.YtmgfaeineklccaaGreatMG1
set_option linter.unusedSimpArgs false
set_option linter.unusedVariables false
namespace Go.Proofs.YtmgfaeineklccaaGreat
open Go.RowKit Go.Lib Fl
def leL(lim x:Nat):Bool:=FloatKind.f64.format.order x lim==some Ordering.lt||FloatKind.f64.format.order x lim==some Ordering.eq
theorem leL_iv{lim x:Nat}(hl:Fnt lim)(hx:Fnt x):leL lim x=decide (iv x<=iv lim):=by
 have h:FloatKind.f64.format.order x lim=some (compare (iv x) (iv lim)):=order_spec hx hl
 unfold leL
 rw[h]
 generalize iv x=a
 generalize iv lim=b
 rcases Int.lt_trichotomy a b with h1|h1|h1
 ·rw[Int.compare_eq_lt.2 h1,decide_eq_true (Int.le_of_lt h1)];rfl
 ·rw[Int.compare_eq_eq.2 h1,decide_eq_true (by omega)];rfl
 ·rw[Int.compare_eq_gt.2 h1,decide_eq_false (by omega)];rfl
theorem fits_fnt{lim w:Nat}(hl:Fnt lim)(h:fitsB lim w=true)(hw:w<18446744073709551616):Fnt w:=by
 obtain⟨y,hy⟩:∃y,w%9223372036854775808=y:=⟨_,rfl⟩
 unfold fitsB at h
 rw[hy] at h
 refine⟨by omega,?_⟩
 apply Classical.byContradiction
 intro hc
 have hs:Ieee.double.signWeight=9223372036854775808:=by decide
 have hi:Ieee.double.infRung=9218868437227405312:=by decide
 have hb:Ieee.double.binade=4503599627370496:=by decide
 have hylt:y<9223372036854775808:=by omega
 obtain⟨s,m,k,hR,-⟩:=read_fin hl
 have hR:Ieee.double.read lim=.number s m ((k:Int)-1074):=hR
 have hread:(Ieee.double.read y=.infinity false)\/(Ieee.double.read y).isNaN=true:=by
  unfold Ieee.Format.read
  dsimp only
  rw[hs,hi,hb,Nat.mod_eq_of_lt hylt,if_neg (by omega),if_neg (by omega)]
  by_cases he:y=9218868437227405312
  ·left
   rw[if_pos he]
   congr 1
   rw[he]
   rfl
  ·right
   rw[if_neg he]
   rfl
 have hord:Ieee.double.order y lim=some .gt\/Ieee.double.order y lim=none:=by
  unfold Ieee.Format.order
  rw[hR]
  rcases hread with e|e
  ·left;rw[e];rfl
  ·right
   cases hh:Ieee.double.read y with
   |number a b c=>rw[hh] at e;cases e
   |infinity a=>rw[hh] at e;cases e
   |nan a b=>rfl
 rcases hord with e|e<;>rw[e] at h<;>exact absurd h (by decide)
theorem fin_fnt{x:Nat}(hx:x<18446744073709551616):finB x=true↔Fnt x:=by
 unfold finB
 constructor
 ·intro h
  simp at h
  exact⟨by omega,by omega⟩
 ·intro h
  have:=h.2
  rw[decide_eq_false (by omega)]
  rfl
theorem fits_word{lim x:Nat}(hl:Fnt lim)(hp:0<=iv lim)(hx:x<18446744073709551616):(finB x&&(leL lim x&&leL lim (T.fneg x)))=fitsB lim x:=by
 cases hf:finB x
 ·cases hg:fitsB lim x
  ·rfl
  ·have:=(fin_fnt hx).2 (fits_fnt hl hg hx)
   rw[hf] at this
   cases this
 have hF:=(fin_fnt hx).1 hf
 have hF2:=hF.2
 obtain⟨n1,n2⟩:=T.fneg_spec hF
 have he:fitsB lim x=leL lim (x%9223372036854775808):=rfl
 rw[he,leL_iv hl hF,leL_iv hl n1,n2]
 by_cases hs:x<9223372036854775808
 ·rw[Nat.mod_eq_of_lt hs,leL_iv hl hF]
  have:=iv_nn19 (r:=x) (by omega)
  rw[show decide (-iv x<=iv lim)=true from decide_eq_true (by omega)]
  simp
 ·have e:x%9223372036854775808=T.fneg x:=by
    rw[T.fneg_eq,T.xor63 x (by omega),if_neg (by omega)]
    omega
  rw[e,leL_iv hl n1,n2]
  have h2:=iv_nn19 (r:=x-9223372036854775808) (by omega)
  have e2:x-9223372036854775808=T.fneg x:=by omega
  rw[e2,n2] at h2
  rw[show decide (iv x<=iv lim)=true from decide_eq_true (by omega)]
  simp
theorem fits_iff{lim x:Nat}(hl:Fnt lim)(hp:0<=iv lim)(hx:x<18446744073709551616):fitsB lim x=true↔Fnt x/\iv x<=iv lim/\-iv x<=iv lim:=by
 rw[<-fits_word hl hp hx]
 constructor
 ·intro h
  simp only[Bool.and_eq_true] at h
  have hF:=(fin_fnt hx).1 h.1
  obtain⟨n1,n2⟩:=T.fneg_spec hF
  rw[leL_iv hl hF,leL_iv hl n1,n2,decide_eq_true_eq,decide_eq_true_eq] at h
  exact⟨hF,h.2⟩
 ·rintro⟨hF,h1,h2⟩
  obtain⟨n1,n2⟩:=T.fneg_spec hF
  rw[(fin_fnt hx).2 hF,leL_iv hl hF,leL_iv hl n1,n2,decide_eq_true h1,decide_eq_true h2]
  rfl
theorem fnt_W890:Fnt W890:=⟨by decide,by decide⟩
theorem nn_W890:0<=iv W890:=iv_nn19 (by decide)
theorem nn_W900:0<=iv W900:=iv_nn19 (by decide)
theorem iv_890:1024*iv W890=iv W900:=by
 have a:iv W890=_:=iv_pos (E:=1913) (m:=0) (by decide) (by decide) (by decide)
 have b:iv W900=_:=iv_pos (E:=1923) (m:=0) (by decide) (by decide) (by decide)
 rw[a,b,show 1923-1=(1913-1)+10 from rfl,Int.pow_add]
 generalize (2:Int)^(1913-1)=p
 rw[show(2:Int)^10=1024 from rfl]
 grind
namespace CG
theorem om_W900:om=10633823966279326983230456482242756608*rv W900:=by
 have h900:10633823966279326983230456482242756608*iv W900=((2^Bt:Nat):Int):=by
  obtain⟨E,hE⟩:∃E:Nat,E=1922:=⟨_,rfl⟩
  have h:D.read W900=.number false 4503599627370496 ((E:Int)-1074):=by rw[hE];decide+kernel
  have hU:Bt=175+E:=by rw[Bt_eq,hE]
  rw[iv_signed h,signed_eq,hU,Nat.pow_add,Int.natCast_mul,Int.natCast_pow 2 E]
  simp only[Bool.false_eq_true,if_false,Int.one_mul]
  rw[show((2^175:Nat):Int)=10633823966279326983230456482242756608*4503599627370496 from rfl,Int.mul_assoc]
  rfl
 rw[om_eq]
 unfold rv
 have h2:((10633823966279326983230456482242756608*iv W900:Int):Rat)=(((2^Bt:Nat):Int):Rat):=by rw[h900]
 rw[Rat.intCast_mul,Rat.intCast_natCast] at h2
 rw[<-h2]
 have e:((10633823966279326983230456482242756608:Int):Rat)=10633823966279326983230456482242756608:=rfl
 rw[e]
 grind
theorem sq_le{a b:Rat}(h1:a<=b)(h2:-a<=b):a*a<=b*b:=by
 have:=Rat.mul_nonneg (a:=b-a) (b:=b+a) (by grind) (by grind)
 grind
theorem le_sq{a b:Rat}(hb:0<=b)(h:a*a<=b*b):a<=b/\-a<=b:=by
 constructor
 ·apply Classical.byContradiction
  intro hc
  have:=Rat.mul_pos (a:=a-b) (b:=a+b) (by grind) (by grind)
  grind
 ·apply Classical.byContradiction
  intro hc
  have:=Rat.mul_pos (a:=-a-b) (b:=-a+b) (by grind) (by grind)
  grind
def D890:Rat:=om*om/118571099379011784113736688648896417641748464297615937576404566024103044751294464
theorem rv_890:rv W890*rv W890*2=D890*2:=by
 have h1:=om_W900
 have h2:1024*rv W890=rv W900:=by
  unfold rv
  rw[<-iv_890,Rat.intCast_mul]
  have:((1024:Int):Rat)=1024:=rfl
  rw[this]
  grind
 unfold D890
 rw[h1,<-h2]
 grind
theorem fits890{w:Nat}(h:fitsB W890 w=true)(hw:w<18446744073709551616):Fnt w/\rv w*rv w<=D890:=by
 obtain⟨hF,h1,h2⟩:=(fits_iff fnt_W890 nn_W890 hw).1 h
 refine⟨hF,?_⟩
 have hu:=ul_unit.2
 have s1:=Rat.intCast_le_intCast.2 h1
 have s2:=Rat.intCast_le_intCast.2 h2
 rw[Rat.intCast_neg] at s2
 have k1:=Rat.mul_nonneg (a:=(iv W890:Rat)-(iv w:Rat)) (b:=ul) (by grind) (by grind)
 have k2:=Rat.mul_nonneg (a:=(iv W890:Rat)+(iv w:Rat)) (b:=ul) (by grind) (by grind)
 have:=sq_le (a:=rv w) (b:=rv W890) (by unfold rv;grind) (by unfold rv;grind)
 have:=rv_890
 grind
theorem fits900_of{w:Nat}(hF:Fnt w)(h:rv w*rv w<=rv W900*rv W900):fitsB W900 w=true:=by
 have hu:=ul_unit.2
 have hp:0<=rv W900:=Rat.mul_nonneg (Rat.intCast_le_intCast.2 nn_W900) (by grind)
 obtain⟨h1,h2⟩:=le_sq hp h
 have h64:(2:Nat)^64=18446744073709551616:=by decide
 refine(fits_iff fnt_W900 nn_W900 (by have:=hF.1;omega)).2 ⟨hF,?_,?_⟩
 ·apply Classical.byContradiction
  intro hc
  have s1:=Rat.intCast_lt_intCast.2 (show iv W900<iv w by omega)
  have:=Rat.mul_pos (a:=(iv w:Rat)-(iv W900:Rat)) (b:=ul) (by grind) hu
  unfold rv at h1
  grind
 ·apply Classical.byContradiction
  intro hc
  have s1:=Rat.intCast_lt_intCast.2 (show iv W900< -iv w by omega)
  rw[Rat.intCast_neg] at s1
  have:=Rat.mul_pos (a:=-(iv w:Rat)-(iv W900:Rat)) (b:=ul) (by grind) hu
  unfold rv at h2
  grind
end CG
end Go.Proofs.YtmgfaeineklccaaGreat
namespace Go.Proofs.YtmgfaeineklccaaGreat
open Go.RowKit Go.Lib Fl
namespace CG
def Sz(c:Cx)(B:RR):Prop:=FinC c/\nsq (vC c)<=B
theorem Sz.mono{c:Cx}{A B:RR}(h:Sz c A)(hb:A<=B):Sz c B:=⟨h.1,Std.IsPreorder.le_trans _ _ _ h.2 hb⟩
theorem nsq_two(a b:CC):nsq (a+b)<=2*nsq a+2*nsq b:=by
 have:=nsq_add (α:=1) (β:=1) (by grind) (by grind) a b
 grind
theorem usq{X:RR}(h:0<=X):64*(uR*uR*X)<=X:=by
 have h1:9007199254740992*uR<=1:=FW.u1
 have h0:0<uR:=FW.u0
 have h2:=RR.mul_nn (x:=1-8*uR) (y:=1+8*uR) (by grind) (by grind)
 have h3:=RR.mul_nn (x:=1-64*(uR*uR)) (y:=X) (by grind) h
 grind
theorem lsq:lR*lR<=1/\0<=lR*lR:=by
 have h1:=ul_one.1
 have h2:=ul_unit.2
 refine⟨?_,RR.sq_nonneg _⟩
 have e:lR*lR=RR.of (ul*ul):=rfl
 have e1:(1:RR)=RR.of 1:=rfl
 rw[e,e1]
 refine RR.of_le.2 ?_
 have:=Rat.mul_nonneg (a:=1-ul) (b:=1+ul) (by grind) (by grind)
 grind
theorem near_le{r s:CC}{A:RR}(h1:nsq s<=A)(h2:nsq (r-s)<=uR*uR*nsq s):16*nsq r<=33*A:=by
 have h3:=nsq_two s (r-s)
 rw[show s+(r-s)=r by grind] at h3
 have h4:=usq (nsq_nonneg s)
 have h5:=nsq_nonneg s
 grind
theorem Sz.add{a b:Cx}{A:RR}(ha:Sz a A)(hb:Sz b A)(h:4*A<=oM):Sz (cadd a b) (9*A):=by
 have h1:=nsq_two (vC a) (vC b)
 have h2:nsq (vC a+vC b)<=4*A:=by have:=ha.2;have:=hb.2;grind
 obtain⟨h3,h4⟩:=c_add ha.1 hb.1 (Std.IsPreorder.le_trans _ _ _ h2 h)
 have h5:=near_le h2 h4
 have h6:=nsq_nonneg (vC a)
 have h7:=ha.2
 exact⟨h3,by grind⟩
theorem Sz.sub{a b:Cx}{A:RR}(ha:Sz a A)(hb:Sz b A)(h:4*A<=oM):Sz (csub a b) (9*A):=by
 have h1:=nsq_two (vC a) (-vC b)
 rw[nsq_neg,show vC a+-vC b=vC a-vC b by grind] at h1
 have h2:nsq (vC a-vC b)<=4*A:=by have:=ha.2;have:=hb.2;grind
 obtain⟨h3,h4⟩:=c_sub ha.1 hb.1 (Std.IsPreorder.le_trans _ _ _ h2 h)
 have h5:=near_le h2 h4
 have h6:=nsq_nonneg (vC a)
 have h7:=ha.2
 exact⟨h3,by grind⟩
theorem Sz.mul{a c:Cx}{A:RR}(ha:Sz a A)(hc:Sz c 32)(h1:16<=A)(h:32*A<=oM):Sz (cmul a c) (100*A):=by
 have n1:=nsq_nonneg (vC a)
 have n2:=nsq_nonneg (vC c)
 have hm:nsq (vC a)*nsq (vC c)<=32*A:=by
  have k1:=RR.mul_nn (x:=A-nsq (vC a)) (y:=nsq (vC c)) (by have:=ha.2;grind) n2
  have k2:=RR.mul_nn (x:=A) (y:=32-nsq (vC c)) (by grind) (by have:=hc.2;grind)
  grind
 obtain⟨h3,h4⟩:=c_mul ha.1 hc.1 (Std.IsPreorder.le_trans _ _ _ hm h)
 refine⟨h3,?_⟩
 have h5:=nsq_two (vC a*vC c) (vC (cmul a c)-vC a*vC c)
 rw[show vC a*vC c+(vC (cmul a c)-vC a*vC c)=vC (cmul a c) by grind,nsq_mul] at h5
 have h6:=usq (RR.mul_nn n1 n2)
 have h7:=lsq
 grind
theorem chalf_over(a:Cx):chalf a=cover a (2:Nat):=by
 have:nz (floatOfInt .f64 ((2:Nat):Int))=4611686018427387904:=by decide+kernel
 unfold chalf cover
 rw[this]
theorem Sz.half{a:Cx}{A:RR}(ha:Sz a A)(h1:16<=A)(h:A<=oM):Sz (chalf a) A:=by
 rw[chalf_over]
 obtain⟨h3,h4⟩:=c_over (n:=2) ha.1 (by decide) (by decide) (Std.IsPreorder.le_trans _ _ _ ha.2 h)
 refine⟨h3,?_⟩
 have h5:=nsq_two (vC a) (CC.of ((2:Nat):RR)*vC (cover a (2:Nat))-vC a)
 rw[show vC a+(CC.of ((2:Nat):RR)*vC (cover a (2:Nat))-vC a)=CC.of ((2:Nat):RR)*vC (cover a (2:Nat)) by grind,nsq_mul,nsq_of] at h5
 have e:((2:Nat):RR)=2:=rfl
 rw[e] at h4 h5
 have h6:=usq (nsq_nonneg (vC a))
 have h7:=lsq
 have h8:=ha.2
 grind
theorem rv_fneg{x:Nat}(h:Fnt x):Fnt (negX x)/\rv (negX x)=-rv x:=by
 obtain⟨n1,n2⟩:=T.fneg_spec h
 have e:negX x=T.fneg x:=nz_fnt n1
 rw[e]
 refine⟨n1,?_⟩
 unfold rv
 rw[n2,Rat.intCast_neg]
 grind
theorem Sz.conj{a:Cx}{A:RR}(ha:Sz a A):Sz (cconj a) A:=by
 obtain⟨h1,h2⟩:=rv_fneg ha.1.2
 refine⟨⟨ha.1.1,h1⟩,?_⟩
 have e:nq (cconj a)=nq a:=by unfold nq cconj;rw[h2];grind
 have:=ha.2
 rw[nsq_vC] at this|-
 rw[e]
 exact this
theorem Sz.turn1{a:Cx}{A:RR}(ha:Sz a A):Sz (cturn1 a) A:=by
 obtain⟨h1,h2⟩:=rv_fneg ha.1.2
 refine⟨⟨h1,ha.1.1⟩,?_⟩
 have e:nq (cturn1 a)=nq a:=by unfold nq cturn1;rw[h2];grind
 have:=ha.2
 rw[nsq_vC] at this|-
 rw[e]
 exact this
theorem Sz.turn3{a:Cx}{A:RR}(ha:Sz a A):Sz (cturn3 a) A:=by
 obtain⟨h1,h2⟩:=rv_fneg ha.1.1
 refine⟨⟨ha.1.2,h1⟩,?_⟩
 have e:nq (cturn3 a)=nq a:=by unfold nq cturn3;rw[h2];grind
 have:=ha.2
 rw[nsq_vC] at this|-
 rw[e]
 exact this
theorem sml_rv{a:Nat×Nat}{x:Nat}(h:T.Sml a)(hx:iv x=iv a.1):rv x*rv x<=16:=by
 obtain⟨v,ok,hv⟩:=h
 obtain⟨r1,r2⟩:=rnd_rel v
 rw[ok.neat] at r1 r2
 rw[<-hx] at r1 r2
 have hu:=ul_unit
 have hn:(v.natAbs:Int)=v\/(v.natAbs:Int)=-v:=by omega
 have e53:(2:Int)^53=9007199254740992:=rfl
 rw[e53] at r1 r2
 generalize hS:((2^U:Nat):Int)=S at hv
 have hS2:(S:Rat)*ul=1:=by
  rw[<-hS,Rat.intCast_natCast,Rat.mul_comm]
  exact hu.1
 have hSp:0<S:=by rw[<-hS];have:=Nat.two_pow_pos U;omega
 have a1:iv x<=4*S:=by omega
 have a2:-iv x<=4*S:=by omega
 have s1:=Rat.intCast_le_intCast.2 a1
 have s2:=Rat.intCast_le_intCast.2 a2
 rw[Rat.intCast_mul] at s1 s2
 rw[Rat.intCast_neg] at s2
 have e4:((4:Int):Rat)=4:=rfl
 rw[e4] at s1 s2
 have k1:=Rat.mul_nonneg (a:=4*(S:Rat)-(iv x:Rat)) (b:=ul) (by grind) (by grind)
 have k2:=Rat.mul_nonneg (a:=4*(S:Rat)+(iv x:Rat)) (b:=ul) (by grind) (by grind)
 have:=sq_le (a:=rv x) (b:=4) (by unfold rv;grind) (by unfold rv;grind)
 grind
theorem hroot_sz(j:Int){n:Nat}(n1:1<=n)(n2:n<=65536):Sz (hroot j n) 32:=by
 obtain⟨-,f1,f2,i1,i2⟩:=T.turn_fn (-j) n (by omega) (by omega)
 obtain⟨s1,s2⟩:=T.ex_sml (k:=-j) (n:=n) (by omega) (by omega)
 have h1:=sml_rv s1 i1
 have h2:=sml_rv s2 i2
 unfold hroot
 rw[nz_fnt f1,nz_fnt f2]
 refine⟨⟨f1,f2⟩,?_⟩
 rw[nsq_vC]
 have e:(32:RR)=RR.of 32:=rfl
 rw[e]
 refine RR.of_le.2 ?_
 unfold nq
 grind
theorem zero_fin:Fnt 0:=by decide
theorem FinC.re{c:Cx}(h:FinC c):FinC (c.1,0):=⟨h.1,zero_fin⟩
theorem Sz.re{c:Cx}{A:RR}(h:Sz c A):Sz (c.1,0) A:=by
 refine⟨h.1.re,?_⟩
 have:=h.2
 rw[nsq_vC] at this|-
 refine Std.IsPreorder.le_trans _ _ _ (RR.of_le.2 ?_) this
 have e:rv 0=0:=by unfold rv;rw[show iv 0=0 by decide+kernel];grind
 unfold nq
 rw[e]
 have:=ratsq (rv c.2)
 grind
theorem fw_fin{Z:Nat->Cx}{m n:Nat}{A:RR}(m1:1<=m)(n1:1<=n)(n2:n<=65536)(hA:16<=A)(hM:100000*A<=oM)(hZ:∀k,k<m->Sz (Z k) A):∀j,j<m+1->FinC (fwF Z m n j):=by
 have hv:∀j:Nat,FinC (evV Z m n j):=λj=>by
  have a:=hZ (j%m) (Nat.mod_lt _ m1)
  have b:=(hZ ((m-j)%m) (Nat.mod_lt _ m1)).conj
  have e:=(a.add b (by grind)).half (by grind) (by grind)
  have o:=(((a.sub b (by grind)).half (by grind) (by grind)).turn3).mul (hroot_sz j n1 n2) (by grind) (by grind)
  exact((e.mono (B:=900*A) (by grind)).add (o.mono (B:=900*A) (by grind)) (by grind)).1
 have he:∀j:Nat,FinC (evF Z m n j):=λj=>by
  unfold evF updT
  split
  ·exact(hv m).re
  ·exact hv j
 intro j _
 unfold fwF updT
 split
 ·exact(he 0).re
 ·exact he j
theorem pr_sz{H:Nat->Cx}{m n:Nat}{A:RR}(n1:1<=n)(n2:n<=65536)(hA:16<=A)(hM:100000*A<=oM){j:Nat}(h1:Sz (H j) A)(h2:Sz (H (j+m)) A):Sz (prV H m n j) (8100*A):=by
 have e:=(h1.add h2 (by grind)).half (by grind) (by grind)
 have o:=(((h1.sub h2 (by grind)).half (by grind) (by grind)).mul (hroot_sz (-(j:Int)) n1 n2) (by grind) (by grind)).turn1
 exact((e.mono (B:=900*A) (by grind)).add (o.mono (B:=900*A) (by grind)) (by grind)).mono (by grind)
theorem whole_sz{h:Nat->Cx}{n l:Nat}{A:RR}(hl:l=n/2+1)(n1:1<=n)(hh:∀i,i<l->Sz (h i) A):∀j,j<n->Sz (wholeC h n j) A:=λj hj=>by
 unfold wholeC
 split
 ·exact(hh 0 (by omega)).re
 split
 ·exact hh j (by omega)
 split
 ·exact(hh j (by omega)).re
 ·exact(hh (n-j) (by omega)).conj
end CG
end Go.Proofs.YtmgfaeineklccaaGreat
