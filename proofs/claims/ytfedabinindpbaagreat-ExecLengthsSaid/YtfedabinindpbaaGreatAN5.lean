/- The walk of ExecLengths. -/
import Derived.Test.YtfedabinindpbaaGreatX0
import Derived.Test.YtfedabinindpbaaGreatML7
import Derived.Test.YtfedabinindpbaaGreatMH1
import Derived.Test.YtfedabinindpbaaGreatG6
set_option maxRecDepth 100000
set_option maxHeartbeats 8000000
set_option linter.unusedSimpArgs false
set_option linter.unusedVariables false
namespace Go.Proofs.YtfedabinindpbaaGreat
open Go.RowKit Go.Lib Fl CG
@[go_sem] theorem run_minL{P:Program}(w:World)(ts:Array TypeId)(t:TypeId)(x y:Int):
  (Builtin.min_ ts t #[.int .i64 x,.int .i64 y]).run P w=.ok (.int .i64 (min x y)) w:=by
 show([Value.int .i64 y].foldlM Builtin.min2 (.int .i64 x)).run P w=_
 simp[List.foldlM,Builtin.min2]
 omega
def u64L(x:Int):Wd:=⟨(IntKind.u64.wrap x).toNat,by rw[IntKind.wrap_u64];omega⟩
def AllF(L:List Rx)(fl:Bool):Prop:=fl=true↔∀i,i<L.length->finB ((L.getD i (0,0)).1:Wd)=true/\finB ((L.getD i (0,0)).2:Wd)=true
theorem AllF.nil:AllF [] true:=⟨λ_ i hi=>absurd hi (Nat.not_lt_zero i),λ_=>rfl⟩
theorem AllF.next{L:List Rx}{fl:Bool}(h:AllF L fl)(u:Rx):AllF (L++[u]) (fl&&finB (u.1:Wd)&&finB (u.2:Wd)):=by
 unfold AllF at*
 rw[Bool.and_eq_true,Bool.and_eq_true,h,List.length_append]
 constructor
 ·rintro⟨⟨h1,h2⟩,h3⟩ i hi
  by_cases e:i<L.length
  ·rw[List.getD_eq_getElem?_getD,List.getElem?_append_left e,<-List.getD_eq_getElem?_getD]
   exact h1 i e
  ·have:i=L.length:=by simp at hi;omega
   rw[List.getD_eq_getElem?_getD,List.getElem?_append_right (by omega),this,Nat.sub_self]
   exact⟨h2,h3⟩
 ·intro h1
  have h2:=h1 L.length (by simp)
  rw[List.getD_eq_getElem?_getD,List.getElem?_append_right (by omega),Nat.sub_self] at h2
  refine⟨⟨λi hi=>?_,h2.1⟩,h2.2⟩
  have h3:=h1 i (by simp;omega)
  rw[List.getD_eq_getElem?_getD,List.getElem?_append_left hi,<-List.getD_eq_getElem?_getD] at h3
  exact h3
theorem ExecLengths_any(A:Option Addr)(n0 c:Nat)(f:Nat->Int×Int)(w:World)(hA:BitsAt w A n0 f)(hn:n0<=9223372036854775807)(hAc:A=none->c=0)(hnc:n0<=c)(hc:c<=9223372036854775807):
  Calls Tryz.prog 3 #[.slice A n0 c] w λz w'=>z=.returned (.bool true)/\Below w.heap.size w w':=by
 have HB:=aZ hA
 have HWK:=aZ wakes20_any
 clear hA
 go_enter Tryz.func3,Tryz.ntmps3
 go_upto_region 4 with fail
 obtain⟨m,hm,hmn⟩:∃m:Nat,min (n0:Int) 60=(m:Int)/\m<=n0:=⟨min n0 60,by omega,by omega⟩
 have hm100:m<=60:=by omega
 have hmc:(m:Int)<=c:=by omega
 have hm0:(0:Int)<=(m:Int):=by omega
 have HM:=aZ hmn
 go_cut [21,22,23] from 17 to 23 (λs21 s22 s23 wx=>(∃c',s21=.slice A m c')/\s22=.int .i64 m/\s23=.int .i64 0/\wx=w)
 case first=>
  rcases A with _|a
  ·obtain rfl:=hAc rfl
   obtain rfl:n0=0:=by omega
   obtain rfl:m=0:=by omega
   go_wp2_with fail
   go_meet
   exact⟨⟨0,rfl⟩,rfl,rfl,rfl⟩
  ·go_wp2_with (fail)
   ·go_meet
    obtain rfl:m=60:=by omega
    exact⟨⟨c,rfl⟩,rfl,rfl,rfl⟩
   ·go_meet
    obtain rfl:m=n0:=by omega
    exact⟨⟨c,rfl⟩,rfl,rfl,rfl⟩
 case rest=>
 obtain⟨⟨c3,rfl⟩,rfl,rfl,rfl⟩:=hcut
 rename World=>w
 apply_assumption
 clear hm hmn hAc hnc hc hn hmc
 go_wp2_with fail
 go_loopw [3,4,23] (λv3 v4 vi wr=>∃(j:Nat) (L:List Rx) (fl:Bool),j<=m/\vi=.int .i64 j/\v4=.bool fl/\Hid (L.length=j)/\Hid (OwnX wr w.heap.size v3 L)/\Hid (Below w.heap.size w wr)/\Hid (AllF L fl)) (λ_ _ vi _=>m-(intOf vi).toNat)
 case atStart=>exact⟨0,[],true,by omega,rfl,rfl,aZ rfl,aZ (OwnX.nil _ _),aZ (Below.refl _ _),aZ AllF.nil⟩
 case round=>
  obtain⟨j,L,fl,hj,rfl,rfl,hL,o9,hb,hal⟩:=hrel
  by_cases hlt:j<m
  ·have hji:(j:Int)<m:=by omega
   have hj9:j+1<=32768:=by omega
   obtain⟨b,o,rfl,y0,y1⟩:=(HB.out.keep hb.out) j (by have:=HM.out;omega)
   obtain⟨x0,hx0⟩:∃x0,(f j).1=x0:=⟨_,rfl⟩
   obtain⟨x1,hx1⟩:∃x1,(f j).2=x1:=⟨_,rfl⟩
   rw[hx0] at y0
   rw[hx1] at y1
   clear hx0 hx1
   obtain⟨u,hu⟩:∃u,u64L x0=u:=⟨_,rfl⟩
   obtain⟨v,hv⟩:∃v,u64L x1=v:=⟨_,rfl⟩
   have hu1:(IntKind.u64.wrap x0).toNat=(u:Nat):=by rw[<-hu];rfl
   have hv1:(IntKind.u64.wrap x1).toNat=(v:Nat):=by rw[<-hv];rfl
   have hfrom:=run_fromF
   clear hu hv
   generalize hv9:u3=v3 at*
   clear hv9
   obtain⟨wb,hwb⟩:∃wb,wb=wr.alloc (.cells #[.int .i64 x0,.int .i64 x1] 25):=⟨_,rfl⟩
   obtain⟨gb,hgb⟩:∃gb,gb=wr.heap.size:=⟨_,rfl⟩
   have hc0:wb.cell? ⟨gb,0,none⟩=some (.int .i64 x0):=by rw[hwb,hgb,World.cell?_alloc_new];rfl
   have hc1:wb.cell? ⟨gb,1,none⟩=some (.int .i64 x1):=by rw[hwb,hgb,World.cell?_alloc_new];rfl
   have HBB:Hid (Below wr.heap.size wr wb):=aZ (by rw[hwb];exact(Below.refl _ wr).alloc (Nat.le_refl _) _)
   have HGS:Hid (wr.heap.size<=gb/\wb.heap.size=gb+1):=aZ ⟨by omega,by rw[hwb,hgb];simp⟩
   go_upto_region 7 with fail
   rw[<-hwb,<-hgb]
   clear hwb hgb y0 y1
   refine wp_region_T (λw'=>w'.cell? ⟨gb,0,none⟩=some (.int .i64 x0)/\w'.cell? ⟨gb,1,none⟩=some (.int .i64 x1)) 10 ⟨hc0,hc1⟩ (λhS0=>?_)
   refine Takes.intro [0,1,2,3,4,5,6,7,8] ?_
   repeat(refine Takes.go (v:=?_) hS0 ?_;try simp only[nrm,Act.put])
   refine Takes.nil ?_
   refine wpAnyS_1 9 (λK hK=>?_)
   go_simp
   obtain⟨wc,hwc⟩:∃wc,wc=(wb.alloc (.cells #[.float .f64 0,.float .f64 0] 29)).drew:=⟨_,rfl⟩
   obtain⟨gc,hgc⟩:∃gc,gc=wb.heap.size:=⟨_,rfl⟩
   have hd0:wc.cell? ⟨gc,0,none⟩=some (.float .f64 0):=by rw[hwc,hgc];show(wb.alloc _).cell? _=_;rw[World.cell?_alloc_new];rfl
   have hd1:wc.cell? ⟨gc,1,none⟩=some (.float .f64 0):=by rw[hwc,hgc];show(wb.alloc _).cell? _=_;rw[World.cell?_alloc_new];rfl
   have hz0:wc.frozen? ⟨gc,0,none⟩=false:=by rw[hwc,hgc];simp[go_sem]
   have hz1:wc.frozen? ⟨gc,1,none⟩=false:=by rw[hwc,hgc];simp[go_sem]
   have hbc:Below wb.heap.size wb wc:=by rw[hwc];exact((Below.refl _ wb).alloc (Nat.le_refl _) _).drew
   have hS1:wc.cell? ⟨gb,0,none⟩=some (.int .i64 x0)/\wc.cell? ⟨gb,1,none⟩=some (.int .i64 x1):=⟨keep_cell hbc hS0.1,keep_cell hbc hS0.2⟩
   have HBC:Hid (Below wr.heap.size wr wc):=aZ (HBB.out.trans (hbc.mono HBB.out.size))
   have HGC:Hid (wr.heap.size<=gc/\gc<wc.heap.size):=aZ ⟨by have:=HGS.out;omega,by rw[hwc,hgc];simp⟩
   rw[<-hwc,<-hgc]
   refine hK.out _ _ (λ_=>hS1) ?_
   clear hK K hwc hgc hbc hc0 hc1
   try simp only[nrm,Act.put]
   refine wpAnyS_fin 1 10 ?_
   simp only[nrd]
   clear hS0 hS1 hfrom
   go_upto_region 8 with fail
   obtain⟨wd,hwd⟩:∃wd,wd=(wc.setCell ⟨gc,0,none⟩ (.float .f64 (u:Nat))).setCell ⟨gc,1,none⟩ (.float .f64 (v:Nat)):=⟨_,rfl⟩
   have ht:T.Two wd gc (.float .f64 (u:Nat)) (.float .f64 (v:Nat)):=by rw[hwd];exact T.Two.setBoth ⟨hd0,hd1,hz0,hz1⟩ _ _
   obtain⟨he0,he1,-,-⟩:=ht
   have HBD:Hid (Below wr.heap.size wr wd):=aZ (by rw[hwd];exact(HBC.out.setCell (p:=⟨_,_,_⟩) HGC.out.1 _).setCell (p:=⟨_,_,_⟩) HGC.out.1 _)
   have HBW:Hid (Below w.heap.size w wd):=aZ (hb.out.trans (HBD.out.mono hb.out.size))
   have HWS:Hid (w.heap.size<=wd.heap.size):=aZ HBW.out.size
   have OX:Hid (OwnX wd w.heap.size v3 L):=aZ (owns_below o9.out HBD.out)
   have HL2:Hid ((L++[(u,v)]).length=j+1):=aZ (by rw[List.length_append,hL.out];rfl)
   obtain⟨bu,hbu⟩:∃bu,finB (u:Wd)=bu:=⟨_,rfl⟩
   obtain⟨bv,hbv⟩:∃bv,finB (v:Wd)=bv:=⟨_,rfl⟩
   have CU:=aZ (λw=>RFin_any (u:Wd) u.isLt w)
   have CV:=aZ (λw=>RFin_any (v:Wd) v.isLt w)
   rw[hbu] at CU
   rw[hbv] at CV
   have HAL:Hid (∀q,q=(fl&&bu&&bv)->AllF (L++[(u,v)]) q):=aZ (λq e=>by
    have:=hal.out.next (u,v)
    rw[e,<-hbu,<-hbv]
    exact this)
   have hbs:=bs_C (u,v)
   rw[<-hwd]
   clear hwd hd0 hd1 hz0 hz1 hbu hbv HBC HGC HGS HBB o9 hb hal hu1 hv1
   cases fl
   ·go_wp2_with (first|(at_builtin;refine wpList_appX rfl _ _ rfl w.heap.size v3 L rfl (World.ownsRow.alloc OX.out _) _ _ (u,v) rfl (by rw[World.cell?_alloc_new];rfl) (by rw[World.cell?_alloc_new];rfl) (by have:=hL.out;omega) (by simp;have:=HWS.out;omega) ?_;intro v' w' hO hg)|fail)
    have HBN:Hid (Below w.heap.size w w'):=aZ ((HBW.out.alloc HBW.out.size _).grown hg.out (by simp;have:=HWS.out;omega) (λg e=>(World.ownsRow.lt OX.out g e).1))
    exact⟨⟨j+1,_,_,by omega,by go_num,rfl,HL2,hO,HBN,aZ (HAL.out _ (by simp))⟩,by simp[intOf];omega⟩
   ·go_wp2_with fail
    refine(CU.out _).mono ?_
    rintro z w' ⟨rfl,rfl⟩
    cases bu
    ·go_wp2_with (first|(at_builtin;refine wpList_appX rfl _ _ rfl w.heap.size v3 L rfl (World.ownsRow.alloc OX.out _) _ _ (u,v) rfl (by rw[World.cell?_alloc_new];rfl) (by rw[World.cell?_alloc_new];rfl) (by have:=hL.out;omega) (by simp;have:=HWS.out;omega) ?_;intro v' w' hO hg)|fail)
     have HBN:Hid (Below w.heap.size w w'):=aZ ((HBW.out.alloc HBW.out.size _).grown hg.out (by simp;have:=HWS.out;omega) (λg e=>(World.ownsRow.lt OX.out g e).1))
     exact⟨⟨j+1,_,_,by omega,by go_num,rfl,HL2,hO,HBN,aZ (HAL.out _ (by simp))⟩,by simp[intOf];omega⟩
    ·go_wp2_with fail
     refine(CV.out _).mono ?_
     rintro z w' ⟨rfl,rfl⟩
     go_wp2_with (first|(at_builtin;refine wpList_appX rfl _ _ rfl w.heap.size v3 L rfl (World.ownsRow.alloc OX.out _) _ _ (u,v) rfl (by rw[World.cell?_alloc_new];rfl) (by rw[World.cell?_alloc_new];rfl) (by have:=hL.out;omega) (by simp;have:=HWS.out;omega) ?_;intro v' w' hO hg)|fail)
     have HBN:Hid (Below w.heap.size w w'):=aZ ((HBW.out.alloc HBW.out.size _).grown hg.out (by simp;have:=HWS.out;omega) (λg e=>(World.ownsRow.lt OX.out g e).1))
     exact⟨⟨j+1,_,_,by omega,by go_num,rfl,HL2,hO,HBN,aZ (HAL.out _ (by simp))⟩,by simp[intOf];omega⟩
  ·obtain rfl:j=m:=by omega
   obtain⟨A9,c9,rfl,hX,h9c,h9m,-⟩:=OwnX.cs o9.out
   have hl:=hL.out
   obtain⟨x,hx⟩:∃x:Nat->Cx,x=λi=>nC (L.getD i (0,0)):=⟨_,rfl⟩
   rw[<-hx] at hX
   have HFX:Hid (fl=true↔FinX x j):=aZ (by
    have hal':=hal.out
    unfold AllF at hal'
    rw[hal',hx]
    unfold FinX
    rw[hl]
    constructor
    ·intro h i hi
     obtain⟨h1,h2⟩:=h i hi
     have g1:=(fin_low (L.getD i (0,0)).1.isLt).1 h1
     have g2:=(fin_low (L.getD i (0,0)).2.isLt).1 h2
     exact⟨by show Fnt (nz _);rw[nz_fnt g1];exact g1,by show Fnt (nz _);rw[nz_fnt g2];exact g2⟩
    ·intro h i hi
     obtain⟨h1,h2⟩:=h i hi
     have h1:Fnt (nz ((L.getD i (0,0)).1:Wd)):=h1
     have h2:Fnt (nz ((L.getD i (0,0)).2:Wd)):=h2
     have e1:=nz_fin h1 (L.getD i (0,0)).1.isLt
     have e2:=nz_fin h2 (L.getD i (0,0)).2.isLt
     rw[e1] at h1
     rw[e2] at h2
     exact⟨(fin_low (L.getD i (0,0)).1.isLt).2 h1,(fin_low (L.getD i (0,0)).2.isLt).2 h2⟩)
   rw[hl] at hX h9c|-
   have HX:=aZ hX
   have HBW:=aZ hb.out
   have HN:=aZ hm100
   clear hX hx hl hL o9 hb hal h9m hlt hj hm0 HB HM
   have HLC:=aZ (Length_len A9 j c9 x wr HX.out HN.out)
   go_wp2_with fail
   refine(HLC.out).mono ?_
   rintro z w4 ⟨⟨g,k,rfl,hlp⟩,hb4⟩
   have HLP:=aZ hlp
   have HB4:=aZ hb4
   have HX4:=aZ (HX.out.keep hb4)
   clear hlp hb4 HLC
   go_wp2_with fail
   refine(HWK.out _).mono ?_
   rintro z w5 ⟨rfl,hb5⟩
   have HB5:Hid (Below wr.heap.size wr w5):=aZ (HB4.out.trans (hb5.mono HB4.out.size))
   have HX5:=aZ (HX4.out.keep hb5)
   clear hb5
   cases fl
   ·rcases HLP.out with⟨h1,rfl,rfl⟩|⟨h1,-⟩
    ·have z1:(FloatKind.f64.format.order 13830554455654793216 13830554455654793216==some Ordering.eq)=true:=by kernel_rfl
     clear h1
     go_wp2_with fail
     refine(HWK.out _).mono ?_
     rintro z w6 ⟨rfl,hb6⟩
     have HB6:Hid (Below w.heap.size w w6):=aZ (HBW.out.trans ((HB5.out.trans (hb6.mono HB5.out.size)).mono HBW.out.size))
     clear hb6
     go_wp2_with fail
     go_ret
     exact⟨rfl,HB6.out⟩
    ·exact absurd (HFX.out.2 h1) (by decide)
   ·rcases HLP.out with⟨h1,-,-⟩|⟨h1,K,hK,hF⟩
    ·exact absurd (HFX.out.1 rfl) h1
    have HK:=aZ hK
    have HF:=aZ hF
    have HFN:=aZ h1
    obtain⟨hK1,hK2⟩:=hK.rng
    clear hK hF h1 HLP HFX HWK
    have HT:=aZ (ltop_any A9 j c9 x w5 HX5.out HN.out HFN.out)
    go_wp2_with fail
    refine(HT.out).mono ?_
    rintro z w6 ⟨⟨K2,rfl,hK3⟩,hb6⟩
    obtain rfl:K2=K:=hK3.same HK.out
    have HB6:Hid (Below wr.heap.size wr w6):=aZ (HB5.out.trans (hb6.mono HB5.out.size))
    have HX6:=aZ (HX5.out.keep hb6)
    have HSC:=aZ (scaled_scl A9 j c9 x K2 w6 HX6.out HN.out HK.out)
    clear hK3 hb6 HT HX4 HX5
    go_wp2_with fail
    refine(HSC.out).mono ?_
    rintro z w7 ⟨u,v,L1,M1,rfl,hl1,hm1,ol,om,-,hb7,hsc⟩
    obtain⟨A1,c1,rfl,hA1,-,-⟩:=ol.fla
    obtain⟨A2,c2,rfl,hA2,-,-⟩:=om.fla
    rw[hl1] at hA1|-
    rw[hm1] at hA2|-
    have HA1:=aZ hA1
    have HA2:=aZ hA2
    have HS7:=aZ hsc
    have HB7:Hid (Below wr.heap.size wr w7):=aZ (HB6.out.trans (hb7.mono HB6.out.size))
    clear hl1 hm1 ol om hb7 hsc hA1 hA2 HSC HX6
    go_wp2_with fail
    have HTT:=aZ (HK.out.tops rfl rfl)
    have HI0:=aZ (LawI.zero (λi=>(x i).1) (λi=>(x i).2) K2.toNat (-K2).toNat j)
    go_loopw [5,14,83] (λlv iv0 vi wz=>∃(i l:Nat),i<=j/\vi=.int .i64 i/\lv=.float .f64 l/\Hid (LawI (λi=>(x i).1) (λi=>(x i).2) K2.toNat (-K2).toNat j i l)/\Hid (Below w7.heap.size w7 wz)) (λ_ _ vi _=>j-(intOf vi).toNat)
    case atStart=>exact⟨0,0,by omega,rfl,rfl,HI0,aZ (Below.refl _ _)⟩
    case round=>
     obtain⟨i,l,hi,rfl,rfl,hI,hbz⟩:=hrel
     by_cases hlt:i<j
     ·have hij:(i:Int)<j:=by omega
      obtain⟨b1,o1,rfl,d1⟩:=(HA1.out.keep hbz.out) i hlt
      obtain⟨b2,o2,rfl,d2⟩:=(HA2.out.keep hbz.out) i hlt
      obtain⟨s1,s2⟩:=HS7.out i hlt
      obtain⟨p,hp⟩:∃p:Nat,((L1.getD i 0:Wd):Nat)=p:=⟨_,rfl⟩
      obtain⟨q,hq⟩:∃q:Nat,((M1.getD i 0:Wd):Nat)=q:=⟨_,rfl⟩
      replace d1:wr.cell? ⟨b1,o1+i,none⟩=some (.float .f64 ((L1.getD i 0:Wd):Nat)):=d1
      replace d2:wr.cell? ⟨b2,o2+i,none⟩=some (.float .f64 ((M1.getD i 0:Wd):Nat)):=d2
      rw[hp] at d1 s1
      rw[hq] at d2 s2
      obtain⟨e1,e2,e3,e4,e5⟩:=LawI.step HTT.out HN.out hlt hI.out s1 s2
      obtain⟨m1,hm1⟩:∃m,fM p p=m:=⟨_,rfl⟩
      obtain⟨m2,hm2⟩:∃m,fM q q=m:=⟨_,rfl⟩
      rw[hm1] at e1 e3 e4 e5
      rw[hm2] at e2 e3 e4 e5
      obtain⟨m3,hm3⟩:∃m,fA m1 m2=m:=⟨_,rfl⟩
      rw[hm3] at e3 e4 e5
      obtain⟨m4,hm4⟩:∃m,fA l m3=m:=⟨_,rfl⟩
      rw[hm4] at e4 e5
      have HE5:=aZ e5
      have hM1:=hmulF e1
      have hM2:=hmulF e2
      have hA3:=T.hadd e3
      have hA4:=T.hadd e4
      clear hp hq e1 e2 e3 e4 e5 hm1 hm2 hm3 hm4 s1 s2 hI
      have HBZ:Hid (Below w7.heap.size w7 wr.drew):=aZ hbz.out.drew
      clear hbz
      go_upto_region 19 with fail
      refine wp_region_T (λw'=>w'.cell? ⟨b1,o1+i,none⟩=some (.float .f64 p)/\w'.cell? ⟨b2,o2+i,none⟩=some (.float .f64 q)) 21 ⟨d1,d2⟩ (λhS0=>?_)
      refine Takes.intro [0,1,2,3,4,5,6,7,8,9,10,11,12,13,14,15,16,17,18,19,20] ?_
      repeat(refine Takes.go (v:=?_) hS0 ?_;try simp only[nrm,Act.put])
      refine Takes.nil ?_
      refine wpAnyS_fin 1 21 ?_
      simp only[nrd]
      clear hS0 d1 d2 hM1 hM2 hA3 hA4
      go_wp2
      exact⟨⟨i+1,m4,by omega,by go_num,rfl,HE5,HBZ⟩,by simp[intOf];omega⟩
     ·obtain rfl:i=j:=by omega
      have HBF:Hid (Below w.heap.size w wr):=aZ (HBW.out.trans ((HB7.out.trans (hbz.out.mono HB7.out.size)).mono HBW.out.size))
      clear HB4 HB5 HB6 HB7 hbz HA1 HA2 HS7
      rcases LawI.fin hI.out HTT.out HN.out with⟨z1,hz⟩|⟨z1,hz,hs⟩
      ·rcases HF.out with⟨-,rfl,rfl⟩|⟨hz2,-⟩
       ·have z2:(FloatKind.f64.format.order 0 0==some Ordering.eq)=true:=by kernel_rfl
        clear hz hI
        go_wp2_with fail
        go_ret
        exact⟨rfl,HBF.out⟩
       ·exact absurd hz hz2
      ·rcases HF.out with⟨hz2,-,-⟩|⟨hz2,s,hs2,hg,rfl⟩
       ·exact absurd hz2 hz
       obtain⟨fg,y1,y2,q,hq,hend⟩:=last_ok HTT.out (by have:=HN.out;omega) hz hs2 hs hg
       have HEND:=aZ hend
       have HRS:=aZ (λw=>RScale_same fg w)
       have HQ:=aZ (λw=>sqrt_any l q w hq)
       clear hz hs hz2 hs2 hg hq hend fg hI HF HK HTT HI0 HFN HN HX
       go_wp2_with fail
       refine(HRS.out _).mono ?_
       rintro z w' ⟨⟨h,⟨hh1,hh2,hh3⟩,rfl⟩,rfl⟩
       obtain⟨d,m,f1,f2,f3,f4⟩:=HEND.out h hh2 hh3
       have hD:=T.hsub f1
       have hM:=hmulF f2
       clear hh1 hh2 hh3 f1 f2
       go_wp2_with fail
       refine(HQ.out _).mono ?_
       rintro z w' ⟨rfl,rfl⟩
       go_wp2_with (first|simp only[hD,hM]|fail)
       go_ret
       exact⟨rfl,HBF.out⟩
end Go.Proofs.YtfedabinindpbaaGreat
