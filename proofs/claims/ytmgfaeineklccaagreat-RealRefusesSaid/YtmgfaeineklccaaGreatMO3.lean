/- real.Forward, real.Backward of any plan and any numbers: refused, or finite numbers. -/
import Derived.Test.YtmgfaeineklccaaGreatMO1
import Derived.Test.YtmgfaeineklccaaGreatMO2
import Derived.Test.YtmgfaeineklccaaGreatX0
import Derived.Test.YtmgfaeineklccaaGreatMC4
set_option linter.unusedSimpArgs false
set_option linter.unusedVariables false
set_option maxRecDepth 100000
set_option maxHeartbeats 4000000
namespace Go.Proofs.YtmgfaeineklccaaGreat
open Go.RowKit Go.Lib
theorem check_eq{k N r:Int}{q:Fo}{want:Int}(h:checkE k N r q want=0):N=want/\1<=want:=by
 unfold checkE at h
 by_cases h1:want<1\/32768<want
 ·rw[if_pos h1] at h;cases h
 rw[if_neg h1] at h
 by_cases h2:64<1+q.count
 ·rw[if_pos h2] at h;cases h
 rw[if_neg h2] at h
 unfold Fo.bad at h
 by_cases e:nodeE k N r q.len ([want].headD 0) false≠0
 ·rw[if_pos e] at h;exact absurd h e
 ·have e:nodeE k N r q.len want false=0:=by simpa using e
  obtain⟨-,-,-,hn,-⟩:=nodeE_zero e
  exact⟨hn,by omega⟩
def FinL(L:List Wd):Prop:=∀i,i<L.length->finB (L.getD i 0:Wd)=true
theorem finB_nz{u:Nat}(hu:u<18446744073709551616)(h:Fl.Fnt (nz u)):finB u=true:=by
 have:=fin_word h
 unfold finB
 rw[decide_eq_false this]
 rfl
theorem noF_zero{x:Nat->Nat}{n:Nat}(h:noF x n=0):idxI (onF λy=>!fitsB W890 y) (reF x) n=-1:=by
 unfold noF at h
 split at h
 ·assumption
 ·cases h
theorem noC_zero{x:Nat->Cx}{n:Nat}(h:noC x n=0):idxI (λy=>!fitsC W890 y) x n=-1:=by
 unfold noC at h
 split at h
 ·assumption
 ·cases h
namespace CG
open Fl
theorem om_900:(1897137590064188545819787018382342682267975428761855001222473056385648716020711424:Rat)<=om:=by
 obtain⟨h1,h2⟩:=ul_unit
 have hp:(((2^U*1897137590064188545819787018382342682267975428761855001222473056385648716020711424:Nat):Nat):Rat)<=(((2^Bt:Nat):Nat):Rat):=Rat.natCast_le_natCast.2 (by
  have e0:(1897137590064188545819787018382342682267975428761855001222473056385648716020711424:Nat)=2^200*2^70:=by decide+kernel
  rw[e0,<-Nat.mul_assoc,<-Nat.pow_add,<-Nat.pow_add]
  exact Nat.pow_le_pow_right (by decide) (by rw[U_eq,Bt_eq];decide))
 rw[Rat.natCast_mul] at hp
 have e:((1897137590064188545819787018382342682267975428761855001222473056385648716020711424:Nat):Rat)=1897137590064188545819787018382342682267975428761855001222473056385648716020711424:=rfl
 rw[e] at hp
 have b:=Rat.mul_nonneg (a:=(((2^Bt:Nat):Nat):Rat)-(((2^U:Nat):Nat):Rat)*1897137590064188545819787018382342682267975428761855001222473056385648716020711424) (b:=ul) (by grind) (by grind)
 rw[om_eq]
 grind
def E890:RR:=RR.of (D890*2)
theorem E890_ok:(1:Rat)<=D890*2/\D890*2*56539106072908298546665520023773392506479484700019806659891398441363832832<=om*om/\(16:Rat)<=D890*2/\20000000000000*(D890*2)<=om*om/256/\0<=D890:=by
 have h4:=om_900
 have k2:=Rat.mul_nonneg (a:=om-1897137590064188545819787018382342682267975428761855001222473056385648716020711424) (b:=om) (by grind) (by grind)
 unfold D890
 refine⟨by grind,by grind,by grind,by grind,by grind⟩
theorem fin_nq{c:Cx}{u v:Wd}(hc:nC (u,v)=c)(h1:fitsB W890 u=true)(h2:fitsB W890 v=true):Sz c E890:=by
 obtain⟨f1,g1⟩:=fits890 h1 u.isLt
 obtain⟨f2,g2⟩:=fits890 h2 v.isLt
 subst hc
 unfold nC
 rw[nz_fnt f1,nz_fnt f2]
 refine⟨⟨f1,f2⟩,?_⟩
 rw[nsq_vC]
 refine RR.of_le.2 ?_
 unfold nq
 grind
theorem fits_of_sz{c:Cx}{A:RR}(h:Sz c A)(hA:A<=RR.of (rv W900*rv W900)):fitsC W900 c=true:=by
 obtain⟨⟨f1,f2⟩,h1⟩:=h
 have h2:=Std.IsPreorder.le_trans _ _ _ h1 hA
 rw[nsq_vC] at h2
 have h3:=RR.of_le.1 h2
 unfold nq at h3
 have q1:=ratsq (rv c.1)
 have q2:=ratsq (rv c.2)
 unfold fitsC
 rw[fits900_of f1 (by grind),fits900_of f2 (by grind)]
 rfl
theorem W900_big:10000*E890<=RR.of (rv W900*rv W900):=by
 have e:10000*E890=RR.of (10000*(D890*2)):=rfl
 rw[e]
 refine RR.of_le.2 ?_
 have h1:=om_W900
 unfold D890
 rw[h1]
 have:=ratsq (rv W900)
 grind
theorem plan_sz(k r:Int)(q:Fo)(N:Nat)(h1:1<=N)(hN:N<=300)(hc:checkE k N r q N=0)(x:Nat->Cx)(hx:∀i,i<N->Sz (x i) E890)(s:Int)(hs:s=1\/s=-1):∀i,i<N->Sz (exF k N r q s x i) (720000*E890):=by
 obtain⟨e1,e2,-,-,e5⟩:=E890_ok
 obtain⟨g1,g2⟩:=plan_grow k r q N h1 hN hc (D890*2) e1 e2 x hx s hs
 intro i hi
 refine⟨g1 i hi,Std.IsPreorder.le_trans _ _ _ (nS_term (f:=λi=>vC (exF k N r q s x i)) hi) (Std.IsPreorder.le_trans _ _ _ g2 ?_)⟩
 have e:720000*E890=RR.of (720000*(D890*2)):=rfl
 rw[e]
 refine RR.of_le.2 ?_
 have h7:=Rat.natCast_le_natCast.2 hN
 have z3:((300:Nat):Rat)=300:=rfl
 rw[z3] at h7
 have h8:(0:Rat)<=(N:Rat):=Rat.natCast_nonneg
 have h11:=(mulle (a:=(N:Rat)) (b:=(N:Rat)) (A:=300) (B:=300) (by grind) h7 (by grind) h7).2
 have h12:=Rat.mul_nonneg (a:=300*300-(N:Rat)*(N:Rat)) (b:=D890) (by grind) (by grind)
 grind
theorem E16:16<=E890:=by
 have e:(16:RR)=RR.of 16:=rfl
 rw[e]
 exact RR.of_le.2 E890_ok.2.2.1
theorem E_oM:20000000000000*E890<=oM:=by
 have e:20000000000000*E890=RR.of (20000000000000*(D890*2)):=rfl
 rw[e]
 exact RR.of_le.2 E890_ok.2.2.2.1
theorem E_fin:10000*E890<=RR.of (om*om/56539106072908298546665520023773392506479484700019806659891398441363832832):=by
 have e:10000*E890=RR.of (10000*(D890*2)):=rfl
 rw[e]
 refine RR.of_le.2 ?_
 have:=E890_ok.2.2.2.2
 unfold D890 at this|-
 grind
end CG
theorem FsAt.all{w:World}{X:Option Addr}{n:Nat}{x:Nat->Nat}(hX:FsAt w X n x)(h:noF x n=0):∀i,i<n->∃u:Wd,nz u=x i/\fitsB W890 u=true:=λi hi=>by
 obtain⟨-,-,u,-,-,hu⟩:=hX i hi
 refine⟨u,hu,?_⟩
 have:=idxI_no.1 (noF_zero h) i hi
 unfold onF reF at this
 dsimp only at this
 rw[<-hu,fits_nz] at this
 simpa using this
theorem CsAt.all{w:World}{X:Option Addr}{l:Nat}{h:Nat->Cx}(hX:CsAt w X l h)(hf:noC h l=0):∀i,i<l->CG.Sz (h i) CG.E890:=λi hi=>by
 obtain⟨-,-,u,-,-,-,hu⟩:=hX i hi
 have:=idxI_no.1 (noC_zero hf) i hi
 rw[<-hu] at this|-
 unfold fitsC nC at this
 simp only[fits_nz] at this
 simp at this
 exact CG.fin_nq (u:=u.1) (v:=u.2) rfl this.1 this.2
theorem fits0:fitsB W890 ((0:Wd):Nat)=true:=by decide+kernel
theorem nz_zero7:nz ((0:Wd):Nat)=0:=by kernel_rfl
def GivesH(w:World)(n:Nat)(e:Int)(z:Ending)(w':World):Prop:=(e≠0/\z=.returned (.tuple #[.slice none 0 0,.int .i64 e]))\/∃(g c:Nat),e=0/\z=.returned (.tuple #[.slice (some ⟨g,0,none⟩) (n/2+1:Nat) c,.int .i64 0])/\FinAt w' g (n/2+1)
theorem hmay_zero{n e:Int}(h:hmayE n e=0):1<=n/\n<=16384/\e=0:=by
 unfold hmayE at h
 split at h
 ·cases h
 ·exact⟨by omega,by omega,h⟩
theorem forwardG(k N r:Int)(q:Fo)(hq:q.count<=549755813888)(A:Option Addr)(c:Nat)(X:Option Addr)(n cx:Nat)(x:Nat->Nat)(w:World)(hk:Kids w A 0 q)(hX:FsAt w X n x)(hn:n<=300):
  Calls Tryz.prog 29 #[plV k N r A q.len c,.slice X n cx] w λz w'=>GivesH w n (fwdE (checkE k N r q (wantsI n)) n x) z w'/\Below w.heap.size w w':=by
 by_cases he:fwdE (checkE k N r q (wantsI n)) n x=0
 ·have hm:hmayE n (checkE k N r q (wantsI n))=0:=by
    unfold fwdE at he
    split at he
    ·exact he
    ·rename_i h;simpa using h
  have hf:noF x n=0:=by
   unfold fwdE at he
   rw[if_neg (by rw[hm];decide)] at he
   exact he
  obtain⟨n1,-,hc⟩:=hmay_zero hm
  obtain⟨hN,-⟩:=check_eq hc
  have hall:=hX.all hf
  by_cases hp:n%2=0
  ·obtain⟨m,hm2⟩:∃m,n=2*m:=⟨n/2,by omega⟩
   have hw:wantsI (n:Int)=(m:Int):=by unfold wantsI;rw[if_neg (by omega),if_pos (by omega)];omega
   rw[hw] at hc hN
   subst hN
   have hz:∀i,i<m->CG.Sz (evC x i) CG.E890:=λi hi=>by
    obtain⟨u,hu,fu⟩:=hall (2*i) (by omega)
    obtain⟨v,hv,fv⟩:=hall (2*i+1) (by omega)
    exact CG.fin_nq (u:=u) (v:=v) (Prod.ext hu hv) fu fv
   have hb:=CG.W900_big
   have hg:guardE (evC x) m=0:=guardE_zero.2 λi hi=>CG.fits_of_sz (hz i hi) (by have:=CG.E16;grind)
   refine(Forward_even k r q m (exF k m r q) (planE_all (B:=300) (by decide) k r m q hc (by omega)) (by rw[<-hc];exact Check_any k m r q m hq) A c X n cx x w hk hX hm2 (by omega) (by omega) hg (noF_zero hf)).mono ?_
   rintro z w' ⟨g,rfl,-,-,hr,hb⟩
   have hs:=CG.plan_sz k r q m (by omega) (by omega) hc (evC x) hz (-1) (.inr rfl)
   have hfin:=CG.fw_fin (n:=n) (by omega) (by omega) (by omega) (A:=720000*CG.E890) (by have:=CG.E16;grind) (by have:=CG.E_oM;have:=CG.E16;grind) hs
   have e:n/2+1=m+1:=by omega
   exact⟨.inr ⟨g,m+1,he,by rw[e],by rw[e];exact hr.fin hfin⟩,hb⟩
  ·have hp:n%2=1:=by omega
   have hw:wantsI (n:Int)=(n:Int):=by unfold wantsI;rw[if_neg (by omega),if_neg (by omega)]
   rw[hw] at hc hN
   subst hN
   have hz:∀i,i<n->CG.Sz (reF x i) CG.E890:=λi hi=>by
    obtain⟨u,hu,fu⟩:=hall i hi
    exact CG.fin_nq (u:=u) (v:=0) (Prod.ext hu nz_zero7) fu fits0
   have hb:=CG.W900_big
   have hg:guardE (reF x) n=0:=guardE_zero.2 λi hi=>CG.fits_of_sz (hz i hi) (by have:=CG.E16;grind)
   refine(Forward_odd k r q n (exF k n r q) (planE_all (B:=300) (by decide) k r n q hc (by omega)) (by rw[<-hc];exact Check_any k n r q n hq) A c X cx x w hk hX hp (by omega) hg (noF_zero hf)).mono ?_
   rintro z w' ⟨g,c',rfl,-,-,hr,hb⟩
   have hs:=CG.plan_sz k r q n (by omega) (by omega) hc (reF x) hz (-1) (.inr rfl)
   refine⟨.inr ⟨g,c',he,rfl,hr.fin λi hi=>?_⟩,hb⟩
   unfold odF updT
   split
   ·exact(hs 0 (by omega)).1.re
   ·exact(hs i (by omega)).1
 ·refine(Forward_bad k N r q _ A c X n cx x w (Check_any k N r q _ hq) hk hX (by omega) he).mono ?_
  rintro z w' ⟨rfl,hb⟩
  exact⟨.inl ⟨he,rfl⟩,hb⟩
def GivesB(w:World)(n:Int)(e:Int)(z:Ending)(w':World):Prop:=(e≠0/\z=.returned (.tuple #[.slice none 0 0,.int .i64 e]))\/∃(v:Value) (L:List Wd),e=0/\z=.returned (.tuple #[v,.int .i64 0])/\(L.length:Int)=n/\L.length<=300/\OwnL w' w.heap.size v L/\FinL L
theorem backwardG(k N r:Int)(q:Fo)(hq:q.count<=549755813888)(A:Option Addr)(c:Nat)(X:Option Addr)(l cx:Nat)(n:Int)(h:Nat->Cx)(w:World)(hk:Kids w A 0 q)(hX:CsAt w X l h)(hl:l<=150):
  Calls Tryz.prog 31 #[plV k N r A q.len c,.slice X l cx,.int .i64 n] w λz w'=>GivesB w n (bwdE (checkE k N r q (wantsI n)) n l h) z w'/\Below w.heap.size w w':=by
 by_cases he:bwdE (checkE k N r q (wantsI n)) n l h=0
 ·have hm:hmayE n (checkE k N r q (wantsI n))=0:=by
    unfold bwdE at he
    split at he
    ·exact he
    ·rename_i h;simpa using h
  have hf:(l:Int)=n/2+1/\noC h l=0:=by
   unfold bwdE at he
   rw[if_neg (by rw[hm];decide)] at he
   split at he
   ·cases he
   ·rename_i h;exact⟨by omega,he⟩
  obtain⟨n1,-,hc⟩:=hmay_zero hm
  obtain⟨hN,-⟩:=check_eq hc
  obtain⟨hl2,hf⟩:=hf
  obtain⟨n,rfl⟩:∃m:Nat,n=(m:Int):=⟨n.toNat,by omega⟩
  have hl3:l=n/2+1:=by omega
  have hn:n<=300:=by omega
  have hall:=hX.all hf
  have hwz:=CG.whole_sz hl3 (by omega) hall
  by_cases hp:n%2=0
  ·obtain⟨m,hm2⟩:∃m,n=2*m:=⟨n/2,by omega⟩
   have hw:wantsI (n:Int)=(m:Int):=by unfold wantsI;rw[if_neg (by omega),if_pos (by omega)];omega
   rw[hw] at hc hN
   subst hN
   have hz:∀i,i<m->CG.Sz (prV (wholeC h n) m n i) (8100*CG.E890):=λi hi=>
    CG.pr_sz (n:=n) (by omega) (by omega) CG.E16 (by have:=CG.E_oM;have:=CG.E16;grind) (hwz i (by omega)) (hwz (i+m) (by omega))
   have hb:=CG.W900_big
   have hg:guardE (prV (wholeC h n) m n) m=0:=guardE_zero.2 λi hi=>CG.fits_of_sz (hz i hi) (by have:=CG.E16;grind)
   refine(Backward_even k r q m (exF k m r q) (planE_all (B:=300) (by decide) k r m q hc (by omega)) (by rw[<-hc];exact Check_any k m r q m hq) A c X l n cx h w hk hX hl3 hm2 (by omega) (by omega) hg (noC_zero hf)).mono ?_
   rintro z w' ⟨v,L,rfl,ho,hL,hr,hb⟩
   have hs:=CG.plan_finite k r q m (by omega) (by omega) hc (prV (wholeC h n) m n) (λi hi=>⟨(hz i hi).1,Std.IsPreorder.le_trans _ _ _ (hz i hi).2 (Std.IsPreorder.le_trans _ _ _ (by have:=CG.E16;grind) CG.E_fin)⟩) 1 (.inl rfl)
   have hfin:=inv_fin (by omega) (by omega) hs.1 hs.2
   refine⟨.inr ⟨v,L,he,rfl,by omega,by omega,ho,λi hi=>?_⟩,hb⟩
   obtain⟨a1,a2⟩:=hr (i/2) (by omega)
   obtain⟨f1,f2⟩:=hfin (i/2) (by omega)
   rw[<-a1] at f1
   rw[<-a2] at f2
   by_cases hi2:i%2=0
   ·rw[show 2*(i/2)=i by omega] at f1
    exact finB_nz (L.getD i 0).isLt f1
   ·rw[show 2*(i/2)+1=i by omega] at f2
    exact finB_nz (L.getD i 0).isLt f2
  ·have hp:n%2=1:=by omega
   have hw:wantsI (n:Int)=(n:Int):=by unfold wantsI;rw[if_neg (by omega),if_neg (by omega)]
   rw[hw] at hc hN
   subst hN
   have hb:=CG.W900_big
   have hg:guardE (wholeC h n) n=0:=guardE_zero.2 λi hi=>CG.fits_of_sz (hwz i hi) (by have:=CG.E16;grind)
   refine(Backward_odd k r q n (exF k n r q) (planE_all (B:=300) (by decide) k r n q hc (by omega)) (by rw[<-hc];exact Check_any k n r q n hq) A c X l cx h w hk hX hl3 hp (by omega) hg (noC_zero hf)).mono ?_
   rintro z w' ⟨v,L,rfl,ho,hL,hr,hb⟩
   have hs:=CG.plan_finite k r q n (by omega) (by omega) hc (wholeC h n) (λi hi=>⟨(hwz i hi).1,Std.IsPreorder.le_trans _ _ _ (hwz i hi).2 (Std.IsPreorder.le_trans _ _ _ (by have:=CG.E16;grind) CG.E_fin)⟩) 1 (.inl rfl)
   have hfin:=inv_fin (by omega) (by omega) hs.1 hs.2
   refine⟨.inr ⟨v,L,he,rfl,by omega,by omega,ho,λi hi=>?_⟩,hb⟩
   have f1:=(hfin i (by omega)).1
   rw[<-hr i (by omega)] at f1
   exact finB_nz (L.getD i 0).isLt f1
 ·refine(Backward_bad k N r q _ A c X l cx n h w (Check_any k N r q _ hq) hk hX (by omega) he).mono ?_
  rintro z w' ⟨rfl,hb⟩
  exact⟨.inl ⟨he,rfl⟩,hb⟩
end Go.Proofs.YtmgfaeineklccaaGreat
namespace Go.Proofs.YtmgfaeineklccaaGreat
open Go.RowKit Go.Lib Fl
theorem RPower890(w:World):Calls Tryz.prog 126 #[.int .i64 890] w λz w'=>z=.returned (.float .f64 W890)/\w=w':=by
 have hfrom:=run_fromF
 go_enter Tryz.func126,Tryz.ntmps126
 go_wp2
 go_ret
 exact⟨rfl,rfl⟩
theorem RFits_any(u:Wd)(w:World):Calls Tryz.prog 87 #[.float .f64 (u:Nat)] w λz w'=>z=.returned (.bool (fitsB W890 u))/\w=w':=by
 have C1:=aZ (λw=>RFin_any u u.isLt w)
 have C2:=aZ (λw=>RPower890 w)
 go_enter Tryz.func87,Tryz.ntmps87
 go_wp2_with fail
 refine(C1.out _).mono ?_
 rintro z w' ⟨rfl,rfl⟩
 go_wp2_with fail
 refine(C2.out _).mono ?_
 rintro z w' ⟨rfl,rfl⟩
 have h:=fits_word fnt_W890 nn_W890 u.isLt
 go_wp2
 ·go_ret
  refine⟨congrArg (λb=>Ending.returned (Value.bool b)) ?_,rfl⟩
  rw[<-h,‹finB u=true›]
  rfl
 ·rename_i h1 h2
  have h3:leL W890 u=false:=by
   unfold leL
   simpa using h2
  go_ret
  refine⟨congrArg (λb=>Ending.returned (Value.bool b)) ?_,rfl⟩
  rw[<-h,h3]
  simp
 ·rename_i h1
  go_ret
  refine⟨congrArg (λb=>Ending.returned (Value.bool b)) ?_,rfl⟩
  rw[<-h]
  simp[h1]
theorem RPlanned_any(kind N r:Int)(q:Fo)(hq:q.count<=1099511627776)(A:Option Addr)(c:Nat)(n:Int)(w:World)(hk:Kids w A 0 q):
  Calls Tryz.prog 86 #[plV kind N r A q.len c,.int .i64 n] w λz w'=>z=.returned (.int .i64 (hmayE n (checkE kind N r q (wantsI n))))/\Below w.heap.size w w':=by
 have HC:=aZ (λw A c hk=>RCheck_any kind N r q (wantsI n) hq w A c hk)
 have HW:=aZ (λw=>refHWants_any n w)
 obtain⟨W,hW⟩:∃W,W=w.alloc (.cells #[.int .i64 kind,.int .i64 N,.int .i64 r,.slice A q.len c] 30):=⟨_,rfl⟩
 have hb:Below w.heap.size w W:=by rw[hW];exact(Below.refl _ w).alloc (Nat.le_refl _) _
 obtain⟨p0,p1,p2,p3⟩:=PlBox.new w kind N r A q.len c 30
 rw[<-hW] at p0 p1 p2 p3
 have HB:=aZ hb
 have HK:=aZ (Kids.below hk hb)
 have HE:Hid ((wantsI n=0->hmayE n (checkE kind N r q (wantsI n))=3)/\(wantsI n≠0->hmayE n (checkE kind N r q (wantsI n))=checkE kind N r q (wantsI n))):=aZ (by
  by_cases h:n<1\/16384<n
  ·refine⟨λ_=>by unfold hmayE;rw[if_pos h],λh2=>absurd (wants_bad h) h2⟩
  ·refine⟨λh2=>?_,λ_=>by unfold hmayE;rw[if_neg h]⟩
   have:=wants_pos (n:=n) (by omega) (by omega)
   unfold wantsI at h2 this
   rw[if_neg h] at h2 this
   by_cases hp:n%2=0
   ·rw[if_pos hp] at h2
    omega
   ·rw[if_neg hp] at h2
    omega)
 obtain⟨e,he⟩:∃e,hmayE n (checkE kind N r q (wantsI n))=e:=⟨_,rfl⟩
 obtain⟨f,hf⟩:∃f,checkE kind N r q (wantsI n)=f:=⟨_,rfl⟩
 rw[he,hf] at HE
 rw[hf] at HC
 rw[he]
 obtain⟨t,ht⟩:∃t,wantsI n=t:=⟨_,rfl⟩
 rw[ht] at HC HW HE
 clear hb hk he hf ht
 go_enter Tryz.func86,Tryz.ntmps86
 go_upto_region 1 with(fail)
 rw[<-hW]
 clear hW
 go_wp2_with fail
 refine(HW.out W).mono ?_
 rintro z w1 ⟨rfl,rfl⟩
 by_cases h0:t=0
 ·obtain rfl:e=3:=HE.out.1 h0
  subst h0
  clear HE HC
  go_wp2
  go_ret
  exact⟨rfl,HB.out⟩
 ·have h1:(t==0)=false:=by simpa using h0
  obtain rfl:e=f:=HE.out.2 h0
  clear HE
  go_wp2_with fail
  refine(HC.out _ A c HK.out).mono ?_
  rintro z w2 ⟨⟨a,rfl⟩,hb2⟩
  have HB2:=aZ (HB.out.trans (hb2.mono HB.out.size))
  clear hb2 p0 p1 p2 p3
  go_wp2
  go_ret
  exact⟨rfl,HB2.out⟩
theorem RForward_any(kind N r:Int)(q:Fo)(hq:q.count<=1099511627776)(A:Option Addr)(c:Nat)(X:Option Addr)(n cx:Nat)(x:Nat->Nat)(w:World)(hk:Kids w A 0 q)(hX:FsAt w X n x)(hn:n<=1000):
  Calls Tryz.prog 30 #[plV kind N r A q.len c,.slice X n cx] w λz w'=>z=.returned (.int .i64 (fwdE (checkE kind N r q (wantsI n)) n x))/\Below w.heap.size w w':=by
 have HC:=aZ (λw A c hk=>RPlanned_any kind N r q hq A c n w hk)
 have HX:=aZ hX
 have HN:=aZ hn
 obtain⟨e0,he0⟩:∃e0,hmayE n (checkE kind N r q (wantsI n))=e0:=⟨_,rfl⟩
 obtain⟨er,her⟩:∃er,er=fwdE (checkE kind N r q (wantsI n)) n x:=⟨_,rfl⟩
 rw[<-her]
 unfold fwdE at her
 rw[he0] at HC her
 have HE0:=aZ her
 obtain⟨W,hW⟩:∃W,W=w.alloc (.cells #[.int .i64 kind,.int .i64 N,.int .i64 r,.slice A q.len c] 30):=⟨_,rfl⟩
 have hb:Below w.heap.size w W:=by rw[hW];exact(Below.refl _ w).alloc (Nat.le_refl _) _
 obtain⟨p0,p1,p2,p3⟩:=PlBox.new w kind N r A q.len c 30
 rw[<-hW] at p0 p1 p2 p3
 have HB:=aZ hb
 have HK:=aZ (Kids.below hk hb)
 clear hb hk hX hn he0 her
 go_enter Tryz.func30,Tryz.ntmps30
 go_upto_region 1 with(fail)
 rw[<-hW]
 clear hW
 go_wp2_with fail
 refine(HC.out W A c HK.out).mono ?_
 rintro z w1 ⟨rfl,hb1⟩
 have HB1:=aZ (HB.out.trans (hb1.mono HB.out.size))
 clear hb1 p0 p1 p2 p3 HC HK HB
 by_cases h0:e0=0
 ·subst h0
  have HE:Hid (er=noF x n):=aZ (by rw[HE0.out,if_neg (by decide)])
  clear HE0
  go_wp2_with fail
  go_loopw [6,7] (λvi _ wr=>∃k:Nat,k<=n/\vi=.int .i64 k/\Hid (idxI (onF λy=>!fitsB W890 y) (reF x) k=-1)/\Hid (w1=wr)) (λvi _ _=>n-(intOf vi).toNat)
  case atStart=>exact⟨0,by omega,rfl,aZ rfl,aZ rfl⟩
  case round=>
   obtain⟨k,hk,rfl,hi,hwr⟩:=hrel
   have hwr:=hwr.out
   subst hwr
   by_cases hlt:k<n
   ·have hki:(k:Int)<n:=by omega
    obtain⟨b,o,u,rfl,c0,hu⟩:=(HX.out.keep HB1.out) k hlt
    have HU:Hid (onF (λy=>!fitsB W890 y) (reF x k)=!fitsB W890 u):=aZ (by show(!fitsB W890 (x k))=_;rw[<-hu,fits_nz])
    have hk9:k+1<=1000:=by have:=HN.out;omega
    clear hu
    go_wp2_with fail
    refine(RFits_any u _).mono ?_
    rintro z w' ⟨rfl,rfl⟩
    cases h7:fitsB W890 u
    all_goals rw[h7] at HU
    case true=>
     have HI:Hid (idxI (onF λy=>!fitsB W890 y) (reF x) (k+1)=-1):=aZ (idxI_next hi.out HU.out)
     go_wp2
     exact⟨⟨k+1,by omega,by go_num,HI,aZ trivial⟩,by simp[intOf];omega⟩
    case false=>
     have HI:Hid (5=er):=aZ (by rw[HE.out];unfold noF;rw[idxI_at hlt hi.out HU.out,if_neg (by omega)])
     go_wp2
     go_ret
     exact⟨by rw[<-HI.out];rfl,HB1.out⟩
   ·obtain rfl:k=n:=by omega
    have HI:Hid (0=er):=aZ (by rw[HE.out];unfold noF;rw[if_pos hi.out])
    go_wp2
    go_ret
    exact⟨by rw[<-HI.out];rfl,HB1.out⟩
 ·obtain rfl:er=e0:=by rw[HE0.out,if_pos h0]
  have h1:(er != 0)=true:=by simpa using h0
  go_wp2
  go_ret
  exact⟨rfl,HB1.out⟩
theorem RBackward_any(kind N r:Int)(q:Fo)(hq:q.count<=1099511627776)(A:Option Addr)(c:Nat)(X Y:Option Addr)(l cx cy:Nat)(n:Int)(h:Nat->Cx)(w:World)(hk:Kids w A 0 q)(hX:FsAt w X l (λi=>(h i).1))(hY:FsAt w Y l (λi=>(h i).2))(hl:l<=1000):
  Calls Tryz.prog 32 #[plV kind N r A q.len c,.slice X l cx,.slice Y l cy,.int .i64 n] w λz w'=>z=.returned (.int .i64 (bwdE (checkE kind N r q (wantsI n)) n l h))/\Below w.heap.size w w':=by
 have HC:=aZ (λw A c hk=>RPlanned_any kind N r q hq A c n w hk)
 have HX:=aZ (And.intro hX hY)
 have HN:=aZ hl
 obtain⟨e0,he0⟩:∃e0,hmayE n (checkE kind N r q (wantsI n))=e0:=⟨_,rfl⟩
 obtain⟨er,her⟩:∃er,er=bwdE (checkE kind N r q (wantsI n)) n l h:=⟨_,rfl⟩
 rw[<-her]
 unfold bwdE at her
 rw[he0] at HC her
 have HE0:=aZ her
 obtain⟨W,hW⟩:∃W,W=w.alloc (.cells #[.int .i64 kind,.int .i64 N,.int .i64 r,.slice A q.len c] 30):=⟨_,rfl⟩
 have hb:Below w.heap.size w W:=by rw[hW];exact(Below.refl _ w).alloc (Nat.le_refl _) _
 obtain⟨p0,p1,p2,p3⟩:=PlBox.new w kind N r A q.len c 30
 rw[<-hW] at p0 p1 p2 p3
 have HB:=aZ hb
 have HK:=aZ (Kids.below hk hb)
 have HNN:Hid (e0=0->1<=n/\n<=16384):=aZ (λh=>by
  rw[<-he0] at h
  unfold hmayE at h
  split at h
  ·cases h
  ·omega)
 clear hb hk hX hY hl he0 her
 go_enter Tryz.func32,Tryz.ntmps32
 go_upto_region 1 with(fail)
 rw[<-hW]
 clear hW
 go_wp2_with fail
 refine(HC.out W A c HK.out).mono ?_
 rintro z w1 ⟨rfl,hb1⟩
 have HB1:=aZ (HB.out.trans (hb1.mono HB.out.size))
 clear hb1 p0 p1 p2 p3 HC HK HB
 by_cases h0:e0=0
 ·have hnn:=HNN.out h0
  subst h0
  by_cases h4:(l:Int)≠n/2+1
  ·obtain rfl:er=4:=by rw[HE0.out,if_neg (by decide),if_pos h4]
   have h6:((l:Int) != n/2+1)=true:=by simpa using h4
   clear h4 HNN HE0
   go_wp2
   go_ret
   exact⟨rfl,HB1.out⟩
  have HE:Hid (er=noC h l):=aZ (by rw[HE0.out,if_neg (by decide),if_neg h4])
  have h6:((l:Int) != n/2+1)=false:=by simpa using h4
  clear h4 HNN HE0
  go_wp2_with fail
  clear hnn h6
  go_loopw [10,11,12] (λvi _ _ wr=>∃k:Nat,k<=l/\vi=.int .i64 k/\Hid (idxI (λy=>!fitsC W890 y) h k=-1)/\Hid (w1=wr)) (λvi _ _ _=>l-(intOf vi).toNat)
  case atStart=>exact⟨0,by omega,rfl,aZ rfl,aZ rfl⟩
  case round=>
   obtain⟨k,hk,rfl,hi,hwr⟩:=hrel
   have hwr:=hwr.out
   subst hwr
   by_cases hlt:k<l
   ·have hki:(k:Int)<l:=by omega
    obtain⟨b,o,u,rfl,c0,hu⟩:=(HX.out.1.keep HB1.out) k hlt
    obtain⟨b',o',v,rfl,d0,hv⟩:=(HX.out.2.keep HB1.out) k hlt
    have hu:nz u=(h k).1:=hu
    have hv:nz v=(h k).2:=hv
    have HUV:Hid ((!fitsC W890 (h k))=(!(fitsB W890 u&&fitsB W890 v))):=aZ (by unfold fitsC;rw[<-hu,<-hv,fits_nz,fits_nz])
    have hk9:k+1<=1000:=by have:=HN.out;omega
    clear hu hv
    go_wp2_with fail
    refine(RFits_any u _).mono ?_
    rintro z w' ⟨rfl,rfl⟩
    go_wp2_with fail
    refine(RFits_any v _).mono ?_
    rintro z w' ⟨rfl,rfl⟩
    cases h7:fitsB W890 u<;>cases h8:fitsB W890 v
    all_goals rw[h7,h8] at HUV
    case true.true=>
     have HI:Hid (idxI (λy=>!fitsC W890 y) h (k+1)=-1):=aZ (idxI_next hi.out HUV.out)
     go_wp2
     exact⟨⟨k+1,by omega,by go_num,HI,aZ trivial⟩,by simp[intOf];omega⟩
    all_goals
     have HI:Hid (5=er):=aZ (by rw[HE.out];unfold noC;rw[idxI_at (p:=λy=>!fitsC W890 y) hlt hi.out HUV.out,if_neg (by omega)])
     go_wp2
     go_ret
     exact⟨by rw[<-HI.out];rfl,HB1.out⟩
   ·obtain rfl:k=l:=by omega
    have HI:Hid (0=er):=aZ (by rw[HE.out];unfold noC;rw[if_pos hi.out])
    go_wp2
    go_ret
    exact⟨by rw[<-HI.out];rfl,HB1.out⟩
 ·obtain rfl:er=e0:=by rw[HE0.out,if_pos h0]
  have h1:(er != 0)=true:=by simpa using h0
  go_wp2
  go_ret
  exact⟨rfl,HB1.out⟩
end Go.Proofs.YtmgfaeineklccaaGreat
