/- Floats, sums of two floats, parts of a turn: what the contract of Turn wants (TV). -/
import Derived.Test.YtfedabinindpbaaGreatX0
import Derived.Test.YtfedabinindpbaaGreatTG
set_option maxRecDepth 100000
set_option maxHeartbeats 8000000
set_option linter.unusedSimpArgs false
set_option linter.unusedVariables false
namespace Go.Proofs.YtfedabinindpbaaGreat.T
open Go.RowKit Fl
def turnC(o:Int)(c s:Nat×Nat):Nat×Nat:=plainF (if 2<=o/\o<=5 then negP (if o=1\/o=2\/o=5\/o=6 then s else c) else(if o=1\/o=2\/o=5\/o=6 then s else c))
def turnS(o:Int)(c s:Nat×Nat):Nat×Nat:=plainF (if 4<=o then negP (if o=1\/o=2\/o=5\/o=6 then c else s) else(if o=1\/o=2\/o=5\/o=6 then c else s))
structure EX(b4 b5:Nat)(u v s t:Nat)(w w1:World):Prop where
 p:Two w1 b4 (.float .f64 u) (.float .f64 v)
 q:Two w1 b5 (.float .f64 s) (.float .f64 t)
 b:Below w.heap.size w w1
 l4:w.heap.size<=b4
 l5:w.heap.size<=b5
 n45:b4≠b5
theorem EX.keep{b4 b5 u v s t:Nat}{w w1 w2:World}(h:EX b4 b5 u v s t w w1)(hb:Below w1.heap.size w1 w2):EX b4 b5 u v s t w w2:=
 ⟨h.p.keep hb,h.q.keep hb,h.b.trans (hb.mono h.b.size),h.l4,h.l5,h.n45⟩
theorem EX.drew{b4 b5 u v s t:Nat}{w w1:World}(h:EX b4 b5 u v s t w w1):EX b4 b5 u v s t w w1.drew:=⟨h.p,h.q,h.b.drew,h.l4,h.l5,h.n45⟩
theorem EX.set4{b4 b5 u v s t:Nat}{w w1:World}(h:EX b4 b5 u v s t w w1)(x y:Nat):EX b4 b5 x y s t w ((w1.setCell ⟨b4,0,none⟩ (.float .f64 x)).setCell ⟨b4,1,none⟩ (.float .f64 y)):=
 ⟨h.p.setBoth _ _,(h.q.setOther ⟨b4,0,none⟩ h.n45 _).setOther ⟨b4,1,none⟩ h.n45 _,(h.b.setCell (p:=⟨b4,0,none⟩) h.l4 _).setCell (p:=⟨b4,1,none⟩) h.l4 _,h.l4,h.l5,h.n45⟩
theorem EX.set5{b4 b5 u v s t:Nat}{w w1:World}(h:EX b4 b5 u v s t w w1)(x y:Nat):EX b4 b5 u v x y w ((w1.setCell ⟨b5,0,none⟩ (.float .f64 x)).setCell ⟨b5,1,none⟩ (.float .f64 y)):=
 ⟨(h.p.setOther ⟨b5,0,none⟩ (λe=>h.n45 e.symm) _).setOther ⟨b5,1,none⟩ (λe=>h.n45 e.symm) _,h.q.setBoth _ _,(h.b.setCell (p:=⟨b5,0,none⟩) h.l5 _).setCell (p:=⟨b5,1,none⟩) h.l5 _,h.l4,h.l5,h.n45⟩
theorem EX.facts{b4 b5 u v s t:Nat}{w w1:World}(h:EX b4 b5 u v s t w w1):(w1.cell? ⟨b4,0,none⟩=some (.float .f64 u)/\w1.cell? ⟨b4,1,none⟩=some (.float .f64 v)/\w1.frozen? ⟨b4,0,none⟩=false/\w1.frozen? ⟨b4,1,none⟩=false)/\
  (w1.cell? ⟨b5,0,none⟩=some (.float .f64 s)/\w1.cell? ⟨b5,1,none⟩=some (.float .f64 t)/\w1.frozen? ⟨b5,0,none⟩=false/\w1.frozen? ⟨b5,1,none⟩=false)/\b4<w1.heap.size/\b5<w1.heap.size:=
 ⟨h.p,h.q,h.p.lt,h.q.lt⟩
theorem fnt_neg{x:Nat}(h:Fnt x):Fnt (fneg x):=(fneg_spec h).1
theorem exact_any(k n:Int)(c1 c2 s1 s2:Nat)(w:World)(h1:1<=n)(h2:n<=1099511627776)(hn:nearF (octR k n) n=some ((c1,c2),(s1,s2)))(fc:Fnt c1)(fs:Fnt s1):
  Calls Tryz.prog 147 #[.int .i64 k,.int .i64 n] w λz w'=>z=.returned (.tuple #[num (turnC (octO k n) (c1,c2) (s1,s2)).1 (turnC (octO k n) (c1,c2) (s1,s2)).2,num (turnS (octO k n) (c1,c2) (s1,s2)).1 (turnS (octO k n) (c1,c2) (s1,s2)).2])/\Below w.heap.size w w':=by
 have c0:=octant_any k n
 obtain⟨o1,o2,_,_⟩:=octO_spec k n (by omega)
 obtain⟨o,ho⟩:∃o,o=octO k n:=⟨_,rfl⟩
 obtain⟨r,hr⟩:∃r,r=octR k n:=⟨_,rfl⟩
 rw[<-ho,<-hr] at c0
 rw[<-ho] at o1 o2|-
 rw[<-hr] at hn
 have hnear:=λw=>near_any r n c1 c2 s1 s2 w hn
 have HOCT:=aZ c0
 have HNEAR:=aZ hnear
 have FC:=aZ fc
 have FS:=aZ fs
 obtain⟨C,hC⟩:∃C,C=if o=1\/o=2\/o=5\/o=6 then(s1,s2) else(c1,c2):=⟨_,rfl⟩
 obtain⟨S,hS⟩:∃S,S=if o=1\/o=2\/o=5\/o=6 then(c1,c2) else(s1,s2):=⟨_,rfl⟩
 obtain⟨C',hC'⟩:∃C',C'=if 2<=o/\o<=5 then negP C else C:=⟨_,rfl⟩
 obtain⟨S',hS'⟩:∃S',S'=if 4<=o then negP S else S:=⟨_,rfl⟩
 have fC:Fnt C'.1:=by
  rw[hC'];unfold negP
  have:Fnt C.1:=by rw[hC];split<;>assumption
  split
  ·exact fnt_neg this
  ·exact this
 have fS:Fnt S'.1:=by
  rw[hS'];unfold negP
  have:Fnt S.1:=by rw[hS];split<;>assumption
  split
  ·exact fnt_neg this
  ·exact this
 have HC:=aZ hC
 have HS:=aZ hS
 have HC':=aZ hC'
 have HS':=aZ hS'
 have FC':=aZ fC
 have FS':=aZ fS
 have eX:turnC o (c1,c2) (s1,s2)=plainF C':=by unfold turnC;rw[hC',hC]
 have eY:turnS o (c1,c2) (s1,s2)=plainF S':=by unfold turnS;rw[hS',hS]
 clear hC hS hC' hS' fC fS
 obtain⟨X,hX⟩:∃X,X=turnC o (c1,c2) (s1,s2):=⟨_,rfl⟩
 obtain⟨Y,hY⟩:∃Y,Y=turnS o (c1,c2) (s1,s2):=⟨_,rfl⟩
 rw[<-hX,<-hY]
 have HX:Hid (X=plainF C'):=aZ (hX.trans eX)
 have HY:Hid (Y=plainF S'):=aZ (hY.trans eY)
 clear c0 hnear hn fc fs ho hr hX hY eX eY
 go_enter Tryz.func147,Tryz.ntmps147
 go_wp2_with fail
 refine(HOCT.out _ h1 h2).mono ?_
 rintro z w' ⟨rfl,rfl⟩
 clear HOCT
 go_upto_region 4 with fail
 go_cut [] from 18 to 23 (λwx=>Hid (EX w.heap.size (w.heap.size+1) c1 c2 s1 s2 w wx))
 case first=>
  clear HC HS HC' HS' HX HY FC' FS'
  go_wp2_with fail
  refine(HNEAR.out _).mono ?_
  rintro z w1 ⟨rfl,hb1⟩
  clear HNEAR
  have E0:=aZ ((EX.mk (b4:=w.heap.size) (b5:=w.heap.size+1) (w:=w) ((Two.new w (.float .f64 0) (.float .f64 0) 188).alloc (.cells #[.float .f64 0,.float .f64 0] 188)) (Two.new' (w:=w.alloc (.cells #[.float .f64 0,.float .f64 0] 188)) (b:=w.heap.size+1) (by simp) (.float .f64 0) (.float .f64 0) 188)
   (((Below.refl _ w).alloc (Nat.le_refl _) _).alloc (by simp) _) (Nat.le_refl _) (by omega) (by omega)).keep hb1)
  clear hb1
  obtain⟨⟨p0,p1,p2,p3⟩,⟨q0,q1,q2,q3⟩,lw0,lw1⟩:=E0.out.facts
  go_wp2_with fail
  go_meet
  exact aZ ((E0.out.set4 c1 c2).set5 s1 s2)
 case rest=>
  clear HNEAR
  have E1:=hcut
  clear hcut
  apply_assumption
  refine wp_seq_k ?_
  intro K1 hK1
  go_cut [] from 24 to 39 (λwx=>Hid (EX w.heap.size (w.heap.size+1) C.1 C.2 S.1 S.2 w wx))
  case first=>
   obtain⟨⟨p0,p1,p2,p3⟩,⟨q0,q1,q2,q3⟩,lw0,lw1⟩:=E1.out.facts
   have e1:=HC.out
   have e2:=HS.out
   clear HC HS HC' HS' HX HY FC' FS'
   rcases(show o=0\/o=1\/o=2\/o=3\/o=4\/o=5\/o=6\/o=7 by omega) with rfl|rfl|rfl|rfl|rfl|rfl|rfl|rfl
   all_goals
    simp at e1 e2
    subst e1 e2
    go_wp2_with fail
    go_meet
    first
    |exact E1
    |exact aZ ((E1.out.set4 s1 s2).set5 c1 c2)
  case rest=>
   clear E1
   have E2:=hcut
   clear hcut
   apply hK1
   refine wp_seq_k ?_
   intro K2 hK2
   go_cut [] from 40 to 47 (λwx=>Hid (EX w.heap.size (w.heap.size+1) C'.1 C'.2 S.1 S.2 w wx))
   case first=>
    obtain⟨⟨p0,p1,p2,p3⟩,⟨q0,q1,q2,q3⟩,lw0,lw1⟩:=E2.out.facts
    have e1:=HC'.out
    clear HC HS HC' HS' HX HY FC' FS'
    by_cases hlo:2<=o
    ·by_cases hhi:o<=5
     ·rw[if_pos ⟨hlo,hhi⟩] at e1
      go_wp2_with fail
      refine(neg_any _ _ _).mono ?_
      rintro z w3 ⟨rfl,hb⟩
      have E3:=aZ (E2.out.keep hb)
      clear hb p0 p1 p2 p3 q0 q1 q2 q3 lw0 lw1
      obtain⟨⟨p0,p1,p2,p3⟩,⟨q0,q1,q2,q3⟩,lw0,lw1⟩:=E3.out.facts
      go_wp2_with fail
      go_meet
      rw[e1]
      exact aZ (E3.out.set4 _ _)
     ·rw[if_neg (λh=>hhi h.2)] at e1
      go_wp2_with fail
      go_meet
      rw[e1]
      exact E2
    ·rw[if_neg (λh=>hlo h.1)] at e1
     go_wp2_with fail
     go_meet
     rw[e1]
     exact E2
   case rest=>
    clear E2
    have E4:=hcut
    clear hcut
    apply hK2
    refine wp_seq_k ?_
    intro K3 hK3
    go_cut [] from 48 to 51 (λwx=>Hid (EX w.heap.size (w.heap.size+1) C'.1 C'.2 S'.1 S'.2 w wx))
    case first=>
     obtain⟨⟨p0,p1,p2,p3⟩,⟨q0,q1,q2,q3⟩,lw0,lw1⟩:=E4.out.facts
     have e1:=HS'.out
     clear HC HS HC' HS' HX HY FC' FS'
     by_cases hlo:4<=o
     ·rw[if_pos hlo] at e1
      go_wp2_with fail
      refine(neg_any _ _ _).mono ?_
      rintro z w3 ⟨rfl,hb⟩
      have E5:=aZ (E4.out.keep hb)
      clear hb p0 p1 p2 p3 q0 q1 q2 q3 lw0 lw1
      obtain⟨⟨p0,p1,p2,p3⟩,⟨q0,q1,q2,q3⟩,lw0,lw1⟩:=E5.out.facts
      go_wp2_with fail
      go_meet
      rw[e1]
      exact aZ (E5.out.set5 _ _)
     ·rw[if_neg hlo] at e1
      go_wp2_with fail
      go_meet
      rw[e1]
      exact E4
    case rest=>
     clear E4
     have E6:=hcut
     clear hcut
     apply hK3
     obtain⟨x1,x2⟩:=C'
     obtain⟨y1,y2⟩:=S'
     have PC:=aZ (λw=>plain_any x1 x2 w FC'.out)
     have PS:=aZ (λw=>plain_any y1 y2 w FS'.out)
     rw[<-HX.out] at PC
     rw[<-HY.out] at PS
     clear HX HY FC' FS' HC HS HC' HS'
     obtain⟨⟨p0,p1,p2,p3⟩,⟨q0,q1,q2,q3⟩,lw0,lw1⟩:=E6.out.facts
     go_upto_region 11 with fail
     go_region_with (first
      |(go_at_call 164;refine(PC.out _).mono ?_;rintro z w7 ⟨rfl,hb⟩;have E7:=aZ (EX.keep (by first|exact E6.out|exact E6.out.drew) hb);clear p0 p1 p2 p3 q0 q1 q2 q3 lw0 lw1;obtain⟨⟨p0,p1,p2,p3⟩,⟨q0,q1,q2,q3⟩,lw0,lw1⟩:=E7.out.facts)
      |(go_at_call 164;refine(PS.out _).mono ?_;rintro z w8 ⟨rfl,hb⟩;have E8:=aZ (E7.out.keep hb);clear p0 p1 p2 p3 q0 q1 q2 q3 lw0 lw1;obtain⟨⟨p0,p1,p2,p3⟩,⟨q0,q1,q2,q3⟩,lw0,lw1⟩:=E8.out.facts))
     all_goals
      go_wp2_with fail
      refine bodyPost_ret (v:=.tuple #[num X.1 X.2,num Y.1 Y.2]) (by simp[results,Tryz.results147,go_sem,p0,p1,p2,p3,q0,q1,q2,q3,lw0,lw1]) rfl ⟨rfl,?_⟩
      first
      |exact((E8.out.set4 _ _).set5 _ _).b
      |fail
theorem turn_of(k n:Int)(a b c d x y:Nat)(w:World)(he:∀w,Calls Tryz.prog 147 #[.int .i64 k,.int .i64 n] w λz w'=>z=.returned (.tuple #[num a b,num c d])/\Below w.heap.size w w')(h1:fadd a b=some x)(h2:fadd c d=some y):
  Calls Tryz.prog 119 #[.int .i64 k,.int .i64 n] w λz w'=>z=.returned (.tuple #[.float .f64 x,.float .f64 y])/\Below w.heap.size w w':=by
 have HE:=aZ he
 have H1:=aZ (λw=>float_any a b x w h1)
 have H2:=aZ (λw=>float_any c d y w h2)
 clear he h1 h2
 go_enter Tryz.func119,Tryz.ntmps119
 go_wp2_with fail
 refine(HE.out _).mono ?_
 rintro z w1 ⟨rfl,hb1⟩
 have E1:Hid (EX w1.heap.size (w1.heap.size+1) a b c d w1 ((w1.alloc (.cells #[.float .f64 a,.float .f64 b] 188)).alloc (.cells #[.float .f64 c,.float .f64 d] 188))):=
  aZ ⟨(Two.new w1 _ _ _).alloc _,Two.new' (by simp) _ _ _,((Below.refl _ w1).alloc (Nat.le_refl _) _).alloc (by simp) _,Nat.le_refl _,by omega,by omega⟩
 have B1:=aZ hb1
 clear hb1 HE
 go_upto_region 2 with fail
 obtain⟨W,hW⟩:∃W,W=((w1.alloc (.cells #[.float .f64 a,.float .f64 b] 188)).alloc (.cells #[.float .f64 c,.float .f64 d] 188)):=⟨_,rfl⟩
 rw[<-hW] at E1|-
 clear hW
 obtain⟨⟨p0,p1,p2,p3⟩,⟨q0,q1,q2,q3⟩,lw0,lw1⟩:=E1.out.facts
 go_region_with (first
  |(go_at_call 148;refine(H1.out _).mono ?_;rintro z w7 ⟨rfl,hb⟩;have E7:=aZ (EX.keep (by first|exact E1.out|exact E1.out.drew) hb);clear p0 p1 p2 p3 q0 q1 q2 q3 lw0 lw1;obtain⟨⟨p0,p1,p2,p3⟩,⟨q0,q1,q2,q3⟩,lw0,lw1⟩:=E7.out.facts)
  |(go_at_call 148;refine(H2.out _).mono ?_;rintro z w8 ⟨rfl,hb⟩;have E8:=aZ (E7.out.keep hb);clear p0 p1 p2 p3 q0 q1 q2 q3 lw0 lw1;obtain⟨⟨p0,p1,p2,p3⟩,⟨q0,q1,q2,q3⟩,lw0,lw1⟩:=E8.out.facts))
 all_goals
  go_wp2_with fail
  go_ret2
  exact⟨rfl,B1.out.trans (E8.out.b.mono B1.out.size)⟩
def nC(n r:Int):Nat×Nat:=((nearF r n).getD default).1
def nS(n r:Int):Nat×Nat:=((nearF r n).getD default).2
def Sml(a:Nat×Nat):Prop:=∃v:Int,Ok a v/\(v.natAbs:Int)<=3*((2^U:Nat):Int)
theorem near_fn{r n:Int}(h0:0<=r)(rn:r<=n)(n1:1<=n)(n2:n<=1099511627776):
  nearF r n=some (nC n r,nS n r)/\Sml (nC n r)/\Sml (nS n r)/\(r=0->nS n r=(0,0))/\(r=n->nC n r=nS n r):=by
 have hp:(0:Int)<((2^U:Nat):Int):=by have:=Nat.two_pow_pos U;omega
 by_cases hr:r=0
 ·have h:nearF r n=some ((oneW,0),(0,0)):=by unfold nearF;rw[if_pos hr]
  have e1:nC n r=(oneW,0):=by unfold nC;rw[h];rfl
  have e2:nS n r=(0,0):=by unfold nS;rw[h];rfl
  rw[e1,e2]
  refine⟨h,⟨_,ok_one rfl,?_⟩,⟨0,ok_zero,?_⟩,λ_=>rfl,λh=>by omega⟩
  ·omega
  ·rw[Int.natAbs_zero];omega
 ·obtain⟨c,s,vc,vs,h,hc,hs,_,b1,b2⟩:=near_ok (S:=((2^U:Nat):Int)) rfl (show 1<=r by omega) rn n2
  have e1:nC n r=c:=by unfold nC;rw[h];rfl
  have e2:nS n r=if r=n then c else s:=by unfold nS;rw[h];rfl
  rw[e1,e2]
  refine⟨h,⟨vc,hc,b1⟩,?_,λh=>absurd h hr,λhrn=>by rw[if_pos hrn]⟩
  split
  ·exact⟨vc,hc,b1⟩
  ·exact⟨vs,hs,b2⟩
theorem Sml.plain{a:Nat×Nat}(h:Sml a):Sml (plainF a):=by
 obtain⟨v,ok,b⟩:=h
 unfold plainF
 split
 ·rename_i h0
  have hr:=rnd_rel v
  rw[ok.neat,h0] at hr
  have e53:(2:Int)^53=9007199254740992:=by decide
  rw[e53] at hr
  have hv:v=0:=by omega
  exact⟨0,ok_zero,by rw[hv] at b;exact b⟩
 ·exact⟨v,ok,b⟩
theorem Sml.neg{a:Nat×Nat}(h:Sml a):Sml (negP a):=by
 obtain⟨v,ok,b⟩:=h
 exact⟨-v,ok.neg,by rw[Int.natAbs_neg];exact b⟩
theorem Sml.f1{a:Nat×Nat}(h:Sml a):Fnt a.1:=by obtain⟨v,ok,_⟩:=h;exact ok.f1
theorem Sml.f2{a:Nat×Nat}(h:Sml a):Fnt a.2:=by obtain⟨v,ok,_⟩:=h;exact ok.f2
theorem Sml.float{a:Nat×Nat}(h:Sml a):∃x,fadd a.1 a.2=some x/\Fnt x/\iv x=iv a.1:=by
 obtain⟨v,ok,b⟩:=h
 obtain⟨_,s2⟩:=S_big (S:=((2^U:Nat):Int)) rfl
 obtain⟨x,h1,fx,vx⟩:=fadd_spec ok.f1 ok.f2 (by rw[ok.v];have:=Nat.two_pow_pos U;omega)
 exact⟨x,h1,fx,by rw[vx,ok.v,ok.neat]⟩
def exC(k n:Int):Nat×Nat:=turnC (octO k n) (nC n (octR k n)) (nS n (octR k n))
def exS(k n:Int):Nat×Nat:=turnS (octO k n) (nC n (octR k n)) (nS n (octR k n))
theorem octR_bd(k n:Int)(n1:1<=n):0<=octR k n/\octR k n<=n:=by
 obtain⟨s1,s2,s3,s4⟩:=octO_spec k n (by omega)
 unfold octR
 rw[Int.add_mul,Int.one_mul]
 split<;>omega
theorem ex_sml{k n:Int}(n1:1<=n)(n2:n<=1099511627776):Sml (exC k n)/\Sml (exS k n):=by
 obtain⟨r1,r2⟩:=octR_bd k n n1
 obtain⟨_,hc,hs,_⟩:=near_fn r1 r2 n1 n2
 unfold exC exS turnC turnS
 constructor
 ·apply Sml.plain
  split
  ·apply Sml.neg;split<;>assumption
  ·split<;>assumption
 ·apply Sml.plain
  split
  ·apply Sml.neg;split<;>assumption
  ·split<;>assumption
theorem exact_fn(k n:Int)(w:World)(n1:1<=n)(n2:n<=1099511627776):
  Calls Tryz.prog 147 #[.int .i64 k,.int .i64 n] w λz w'=>z=.returned (.tuple #[num (exC k n).1 (exC k n).2,num (exS k n).1 (exS k n).2])/\Below w.heap.size w w':=by
 obtain⟨r1,r2⟩:=octR_bd k n n1
 obtain⟨h,hc,hs,_⟩:=near_fn r1 r2 n1 n2
 exact exact_any k n _ _ _ _ w n1 n2 h hc.f1 hs.f1
def tuC(k n:Int):Nat:=(fadd (exC k n).1 (exC k n).2).getD 0
def tuS(k n:Int):Nat:=(fadd (exS k n).1 (exS k n).2).getD 0
theorem turn_fn(k n:Int)(n1:1<=n)(n2:n<=1099511627776):
  (∀w,Calls Tryz.prog 119 #[.int .i64 k,.int .i64 n] w λz w'=>z=.returned (.tuple #[.float .f64 (tuC k n),.float .f64 (tuS k n)])/\Below w.heap.size w w')/\
   Fnt (tuC k n)/\Fnt (tuS k n)/\iv (tuC k n)=iv (exC k n).1/\iv (tuS k n)=iv (exS k n).1:=by
 obtain⟨hc,hs⟩:=ex_sml (k:=k) n1 n2
 obtain⟨x,h1,fx,vx⟩:=hc.float
 obtain⟨y,h2,fy,vy⟩:=hs.float
 have e1:tuC k n=x:=by unfold tuC;rw[h1];rfl
 have e2:tuS k n=y:=by unfold tuS;rw[h2];rfl
 rw[e1,e2]
 exact⟨λw=>turn_of k n _ _ _ _ x y w (λw=>exact_fn k n w n1 n2) h1 h2,fx,fy,vx,vy⟩
structure Turns(a b:Nat×Nat):Prop where
 h1:iv a.1=-iv b.1
 h2:iv a.2=-iv b.2
theorem Turns.symm{a b:Nat×Nat}(h:Turns a b):Turns b a:=⟨by have:=h.h1;omega,by have:=h.h2;omega⟩
end Go.Proofs.YtfedabinindpbaaGreat.T
