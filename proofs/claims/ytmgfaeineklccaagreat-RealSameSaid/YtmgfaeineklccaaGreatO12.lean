/- The walk of RealSame. -/
import Derived.Test.YtmgfaeineklccaaGreatX0
import Derived.Test.YtmgfaeineklccaaGreatMO4
import Derived.Test.YtmgfaeineklccaaGreatMG1
import Derived.Test.YtmgfaeineklccaaGreatMV5
import Derived.Laws.StructEq
import Derived.KernelRfl
set_option maxRecDepth 100000
set_option maxHeartbeats 8000000
set_option linter.unusedSimpArgs false
set_option linter.unusedVariables false
namespace Go.Proofs.YtmgfaeineklccaaGreat
open Go.RowKit Go.Lib Fl
theorem word_fin12{x y:Nat}(h:nz x=y)(hf:Fnt y):x=y:=by
 unfold nz at h
 split at h
 ·subst h
  exact absurd hf (by decide)
 ·exact h
theorem ord_selfE12{x:Nat}(h:Fnt x):(FloatKind.f64.format.order x x==some Ordering.eq)=true:=by
 have:=ord_self h
 cases hc:FloatKind.f64.format.order x x with
 |none=>rw[hc] at this;cases this
 |some o=>rw[hc] at this;cases o<;>first|rfl|cases this
open CG in
theorem same_fin12{c:Cx}{u v:Rx}(hu:nC u=c)(hv:nC v=c)(hf:FinC c):(v.1:Nat)=u.1/\(v.2:Nat)=u.2/\(FloatKind.f64.format.order u.1 u.1==some Ordering.eq)=true/\(FloatKind.f64.format.order u.2 u.2==some Ordering.eq)=true:=by
 have e1:=word_fin12 (congrArg Prod.fst hu) hf.1
 have e2:=word_fin12 (congrArg Prod.snd hu) hf.2
 have e3:=word_fin12 (congrArg Prod.fst hv) hf.1
 have e4:=word_fin12 (congrArg Prod.snd hv) hf.2
 exact⟨e3.trans e1.symm,e4.trans e2.symm,ord_selfE12 (by rw[e1];exact hf.1),ord_selfE12 (by rw[e2];exact hf.2)⟩
theorem run_eqF_12(d:Nat){x:Nat}(w:World)(h:(FloatKind.f64.format.order x x==some Ordering.eq)=true):(Op.equalIn (d+1) 33 (.float .f64 x) (.float .f64 x)).run Tryz.prog w=.ok true w:=by
 have h2:Op.floatEq FloatKind.f64 x x=true:=h
 simp[Op.equalIn,run_underlying Tryz.underlying33,h2]
theorem neq_C12(u:Rx)(h1:(FloatKind.f64.format.order u.1 u.1==some Ordering.eq)=true)(h2:(FloatKind.f64.format.order u.2 u.2==some Ordering.eq)=true)(w:World):(binOp .neq 52 (cV u) (cV u)).run Tryz.prog w=.ok (.bool false) w:=by
 have u3:=Tryz.underlying33
 have a3:=Tryz.isAgg33
 have z3:=Tryz.sizeOf33
 have hS:Tryz.prog.underlying 52=some (.struct (Tryz.prog.fieldsOf 52)):=by kernel_rfl
 have hp:Tryz.prog.stoodInHeld 52=false:=by kernel_rfl
 have e1:=run_eqF_12 9998 (x:=u.1) w h1
 have e2:=run_eqF_12 9998 (x:=u.2) w h2
 rw[show 9998+1=9999 from rfl] at e1 e2
 rw[run_neq_struct,show(10000:Nat)=9999+1 from rfl,run_equalIn_agg w 9999 52 _ _ hS hp]
 simp only[Program.fieldsOf,Tryz.underlying52]
 go_simp
theorem wants_num{N:Nat}(h1:1<=N)(h2:N<=300):∃M:Nat,wantsI (N:Int)=(M:Int)/\1<=M/\M<=300:=by
 unfold wantsI
 rw[if_neg (by omega)]
 by_cases hp:(N:Int)%2=0
 ·rw[if_pos hp]
  exact⟨N/2,by omega,by omega,by omega⟩
 ·rw[if_neg hp]
  exact⟨N,rfl,h1,h2⟩
theorem noF_real(f:Nat->Int×Int)(l n:Nat):noF (λi=>nz (rlW f l i)) n=0:=by
 unfold noF
 rw[if_pos (idxI_no.2 λi _=>?_)]
 unfold onF reF
 dsimp only
 rw[fits_nz,rlW_fits]
 rfl
theorem RealSame_any(a0:Int)(b0:-9223372036854775808<=a0)(b1:a0<=9223372036854775807)(A1:Option Addr)(n1 c1:Nat)(g1:Nat->Int)(Al:Option Addr)(nl cl:Nat)(f:Nat->Int×Int)(w:World)(hI1:IntsAt w A1 n1 g1)(hn1:n1<=1125899906842624)(hL:RlAt w Al nl f):
  Calls Tryz.prog 9 #[.int .i64 a0,.slice A1 n1 c1,.slice Al nl cl] w λz w'=>z=.returned (.bool true)/\Below w.heap.size w w':=by
 obtain⟨N,hN⟩:∃N:Nat,1+(if 0<a0 then a0 else 0)%300=(N:Int):=⟨(1+(if 0<a0 then a0 else 0)%300).toNat,by split<;>omega⟩
 have HNN:Hid (1<=N/\N<=300):=aZ (by split at hN<;>omega)
 obtain⟨M,hM,m1,m2⟩:=wants_num HNN.out.1 HNN.out.2
 have HMM:=aZ (And.intro hM (And.intro m1 m2))
 have HW:=aZ (λw=>refHWants_any (N:Int) w)
 rw[hM] at HW
 have HP0:=aZ (planOf21 M HMM.out.2.1 (by have:=HMM.out;omega) A1 n1 c1 g1 w hI1 hn1)
 have HRL:=aZ (λ(w':World) (h:RlAt w' Al nl f)=>Reals21 Al nl cl N f w' h (by have:=HNN.out;omega))
 have HWK:=aZ wakes21_any
 have HL:=aZ hL
 clear hI1 hL hn1 hM m1 m2
 go_enter Tryz.func9,Tryz.ntmps9
 go_upto_region 2 with fail
 obtain⟨i1,hi1⟩:∃i1,(if 0<a0 then a0 else 0)=i1:=⟨_,rfl⟩
 rw[hi1]
 clear hN hi1
 go_wp2_with fail
 refine(HW.out w).mono ?_
 rintro z w0 ⟨rfl,rfl⟩
 go_wp2_with fail
 refine HP0.out.mono ?_
 rintro z w1 ⟨k,r,q,B,c,rfl,hq,hky,hb1⟩
 have HQ:=aZ hq
 have HK:=aZ hky.kids
 have HB1:=aZ hb1
 obtain⟨d,hd⟩:∃d:Bool,decide (checkE k M r q M=0)=d:=⟨_,rfl⟩
 rw[hd]
 have HD:=aZ hd
 clear hq hky hd HP0 hb1 HW
 go_upto_region 3 with fail
 obtain⟨W2,hW2⟩:∃W2,W2=w1.alloc (.cells #[.int .i64 k,.int .i64 M,.int .i64 r,.slice B q.len c] 27):=⟨_,rfl⟩
 have hb2:Below w1.heap.size w1 W2:=by rw[hW2];exact(Below.refl _ w1).alloc (Nat.le_refl _) _
 have hp2:PlBox W2 w1.heap.size k M r B q.len c:=by rw[hW2];exact PlBox.new w1 _ _ _ _ _ _ _
 rw[<-hW2]
 obtain⟨bP,hbP⟩:∃bP,w1.heap.size=bP:=⟨_,rfl⟩
 rw[hbP] at hp2|-
 have HPX:=aZ (And.intro hp2 (HK.out.below hb2))
 have HL2:=aZ ((HL.out.keep HB1.out).keep hb2)
 have HB2:=aZ (HB1.out.trans (hb2.mono HB1.out.size))
 clear hW2 hb2 hp2 hbP HK HB1 HL
 cases d
 case false=>
  go_wp2_with fail
  refine(HWK.out _).mono ?_
  rintro z w6 ⟨rfl,hb6⟩
  have HB6:=aZ (HB2.out.trans (hb6.mono HB2.out.size))
  clear hb6
  go_wp2_with fail
  refine(HWK.out _).mono ?_
  rintro z w7 ⟨rfl,hb7⟩
  have HB7:=aZ (HB6.out.trans (hb7.mono HB6.out.size))
  clear hb7
  go_wp2
  go_ret
  exact⟨rfl,HB7.out⟩
 case true=>
 have HV:Hid (checkE k M r q (wantsI N)=0):=aZ (by rw[HMM.out.1];exact of_decide_eq_true HD.out)
 obtain⟨xf,hxf⟩:∃xf:Nat->Wd,rlW f nl=xf:=⟨_,rfl⟩
 have HXF:Hid (∀i,Fnt (xf i)):=aZ (λi=>by rw[<-hxf];exact rlW_fnt f nl i)
 have HNF:Hid (noF (λi=>nz (xf i)) N=0):=aZ (by rw[<-hxf];exact noF_real f nl N)
 rw[hxf] at HRL
 have HFW:=aZ (λw X cx h1 h2=>forwardF k M r q (by have:=HQ.out;omega) N HNN.out.1 HNN.out.2 HV.out B c X cx (λi=>nz (xf i)) w h1 h2 HNF.out)
 obtain⟨H,hH⟩:∃H,hwF k r q N (λi=>nz (xf i))=H:=⟨_,rfl⟩
 rw[hH] at HFW
 obtain⟨l,hl⟩:∃l:Nat,N/2+1=l:=⟨_,rfl⟩
 have HBK:=aZ (λw X cx h1 h2=>backwardF k M r q (by have:=HQ.out;omega) N l HNN.out.1 HNN.out.2 hl.symm HV.out B c X cx H w h1 h2)
 rw[hl] at HFW
 obtain⟨eb,heb⟩:∃eb,noC H l=eb:=⟨_,rfl⟩
 obtain⟨la,hla⟩:∃la:Nat,(if noC H l=0 then N else 0)=la:=⟨_,rfl⟩
 obtain⟨bw,hbw⟩:∃bw,bwF k r q N H=bw:=⟨_,rfl⟩
 rw[hla,heb,hbw] at HBK
 have HLL:Hid (N/2+1=l/\la<=N):=aZ ⟨hl,by rw[<-hla];split<;>omega⟩
 clear hxf hH hl heb hla hbw HD HNF
 go_wp2_with fail
 refine(HWK.out _).mono ?_
 rintro z w6 ⟨rfl,hb6⟩
 have HB6:=aZ (HB2.out.trans (hb6.mono HB2.out.size))
 have HP6:=aZ (And.intro (HPX.out.1.below hb6) (HPX.out.2.below hb6))
 have HL6:=aZ (HL2.out.keep hb6)
 clear hb6 HB2 HPX HL2 HWK
 go_wp2_with fail
 refine(HRL.out w6 HL6.out).mono ?_
 rintro z w7 ⟨gx,rfl,-,-,hr7,hb7⟩
 have HX7:=aZ hr7
 have HB7:=aZ (HB6.out.trans (hb7.mono HB6.out.size))
 have HP7:=aZ (And.intro (HP6.out.1.below hb7) (HP6.out.2.below hb7))
 have HL7:=aZ (HL6.out.keep hb7)
 clear hr7 hb7 HB6 HP6 HL6
 obtain⟨x0,x1,x2,x3⟩:=HP7.out.1
 go_wp2_with fail
 refine(HFW.out w7 _ _ HP7.out.2 HX7.out.fs).mono ?_
 rintro z w8 ⟨gy,cy,rfl,hcy,hy8,hfy,hb8⟩
 have HCY:=aZ hcy
 have HY8:=aZ hy8
 have HFY:=aZ hfy
 have HX8:=aZ (HX7.out.keep hb8)
 have HB8:=aZ (HB7.out.trans (hb8.mono HB7.out.size))
 have HP8:=aZ (And.intro (HP7.out.1.below hb8) (HP7.out.2.below hb8))
 have HL8:=aZ (HL7.out.keep hb8)
 clear hcy hy8 hfy hb8 x0 x1 x2 x3 HX7 HB7 HP7 HL7
 obtain⟨x0,x1,x2,x3⟩:=HP8.out.1
 go_wp2_with fail
 refine(HFW.out w8 _ _ HP8.out.2 HX8.out.fs).mono ?_
 rintro z w9 ⟨gz,cz,rfl,hcz,hz9,-,hb9⟩
 have HZ9:=aZ hz9
 have HY9:=aZ (HY8.out.keep hb9)
 have HX9:=aZ (HX8.out.keep hb9)
 have HB9:=aZ (HB8.out.trans (hb9.mono HB8.out.size))
 have HP9:=aZ (And.intro (HP8.out.1.below hb9) (HP8.out.2.below hb9))
 have HL9:=aZ (HL8.out.keep hb9)
 clear hcz hz9 hb9 x0 x1 x2 x3 HX8 HY8 HB8 HP8 HL8 HFW
 go_wp2_with fail
 refine(HRL.out w9 HL9.out).mono ?_
 rintro z w10 ⟨go,rfl,-,-,hr10,hb10⟩
 have HO:=aZ hr10
 have HZ:=aZ (HZ9.out.keep hb10)
 have HY:=aZ (HY9.out.keep hb10)
 have HX:=aZ (HX9.out.keep hb10)
 have HBW:=aZ (HB9.out.trans (hb10.mono HB9.out.size))
 have HP10:=aZ (And.intro (HP9.out.1.below hb10) (HP9.out.2.below hb10))
 clear hr10 hb10 HZ9 HY9 HX9 HB9 HL9 HRL HP9
 go_wp2_with fail
 go_loopw [15,75] (λ_ vi wr=>∃j:Nat,j<=N/\vi=.int .i64 j/\Hid (Below w10.heap.size w10 wr)) (λ_ vi _=>N-(intOf vi).toNat)
 case atStart=>exact⟨0,by omega,rfl,aZ (Below.refl _ _)⟩
 case round=>
  obtain⟨j,hj,rfl,hb⟩:=hrel
  by_cases hlt:j<N
  ·have hji:(j:Int)<N:=by omega
   have hj9:j+1<=1000:=by have:=HNN.out;omega
   obtain⟨d0,-⟩:=(HX.out.keep hb.out) j hlt
   obtain⟨d1,-⟩:=(HO.out.keep hb.out) j hlt
   obtain⟨u,hu⟩:∃u,xf j=u:=⟨_,rfl⟩
   have hF:Fnt u:=by rw[<-hu];exact HXF.out j
   have ho:=ord_self hF
   rw[hu] at d0 d1
   have HBR:=aZ hb.out.drew
   clear hu hF hb
   go_upto_region 14 with(fail)
   refine wp_region_T (λw'=>w'.cell? ⟨gx,j,none⟩=some (.float .f64 (u:Nat))/\w'.cell? ⟨go,j,none⟩=some (.float .f64 (u:Nat))) 8 ⟨d0,d1⟩ (λhS0=>?_)
   refine Takes.intro [0,1,2,3,4,5,6,7] ?_
   repeat(refine Takes.go (v:=?_) hS0 ?_;try simp only[nrm,Act.put])
   refine Takes.nil ?_
   refine wpAnyS_fin 1 8 ?_
   simp only[nrd]
   clear hS0 d0 d1
   go_wp2
   exact⟨⟨j+1,by omega,by go_num,HBR⟩,by simp[intOf];omega⟩
  ·obtain rfl:j=N:=by omega
   have HBX:=aZ (HBW.out.trans (hb.out.mono HBW.out.size))
   have HYX:=aZ (HY.out.keep hb.out)
   have HZX:=aZ (HZ.out.keep hb.out)
   have HPX:=aZ (And.intro (HP10.out.1.below hb.out) (HP10.out.2.below hb.out))
   clear hb hlt hj HBW HY HZ HP10 HX HO HXF
   rename World=>wE
   go_wp2_with fail
   go_loopw [16,17,18,90] (λ_ _ _ vi wr=>∃j:Nat,j<=l/\vi=.int .i64 j/\Hid (Below wE.heap.size wE wr)) (λ_ _ _ vi _=>l-(intOf vi).toNat)
   case atStart=>exact⟨0,by omega,rfl,aZ (Below.refl _ _)⟩
   case round=>
    obtain⟨j,hj,rfl,hb⟩:=hrel
    by_cases hlt:j<l
    ·have hji:(j:Int)<l:=by omega
     have hll:l<=300:=by have:=HLL.out;have:=HNN.out;omega
     have hj9:j+1<=1000:=by omega
     have hjc:j+1<=cy:=by have:=HCY.out;omega
     obtain⟨y,y0,y1,-,-,hy⟩:=(HYX.out.keep hb.out) j hlt
     obtain⟨v,z0,z1,-,-,hz⟩:=(HZX.out.keep hb.out) j hlt
     obtain⟨ez1,ez2,oy1,oy2⟩:=same_fin12 hy hz (HFY.out j hlt)
     rw[ez1] at z0
     rw[ez2] at z1
     have HBR:=aZ hb.out.drew
     have q1:=neq_C12 y oy1 oy2
     have q0:Tryz.prog.eqGuardType Tryz.prog.depth 52=false:=by kernel_rfl
     have HGU:=aZ (λ(w':World) (h:Below wE.heap.size wE w')=>Guard_any (some ⟨gy,j*2,none⟩) 1 (cy-j) (λ_=>H j) w' (λi hi=>by
      obtain⟨y,y0,y1,-,-,hy⟩:=(HYX.out.keep h) j hlt
      obtain rfl:i=0:=by omega
      exact⟨gy,j*2,y,rfl,y0,y1,hy⟩) (by decide))
     obtain⟨ge,hge⟩:∃ge:Int,(if idxI (badC W900) (λ_=>H j) 1=-1 then 0 else 5)=ge:=⟨_,rfl⟩
     rw[hge] at HGU
     have HL9:=aZ hll
     clear hy hz ez1 ez2 oy1 oy2 hb hge hll
     go_upto_region 20 with(fail)
     refine wp_region_T (λw'=>(w'.cell? ⟨gy,j*2,none⟩=some (.float .f64 y.1)/\w'.cell? ⟨gy,j*2+1,none⟩=some (.float .f64 y.2))/\(w'.cell? ⟨gz,j*2,none⟩=some (.float .f64 y.1)/\w'.cell? ⟨gz,j*2+1,none⟩=some (.float .f64 y.2))) 8 ⟨⟨y0,y1⟩,z0,z1⟩ (λhS0=>?_)
     refine Takes.intro [0,1,2,3,4,5,6,7] ?_
     repeat(refine Takes.go (v:=?_) hS0 ?_;try simp only[nrm,Act.put])
     refine Takes.nil ?_
     refine wpAnyS_fin 1 8 ?_
     simp only[nrd]
     clear hS0 y0 y1 z0 z1
     have hj0:(0:Int)<=j:=by omega
     have hj1:(j:Int)<=(j:Int)+1:=by omega
     have hj2:(j:Int)+1<=cy:=by omega
     go_wp2_with fail
     refine(HGU.out _ HBR.out).mono ?_
     rintro z w3 ⟨⟨a3,rfl⟩,hb3⟩
     have hS1:Hid (Below wE.heap.size wE w3):=aZ (HBR.out.trans (hb3.mono HBR.out.size))
     clear hb3 HGU HBR
     cases hgz:decide (ge=0)
     ·have hg0:ge≠0:=of_decide_eq_false hgz
      have hg1:(ge != 0)=true:=by simpa using hg0
      have HBF:=aZ (HBX.out.trans (hS1.out.mono HBX.out.size))
      clear hgz hg0 hS1
      go_wp2
      go_ret
      exact⟨rfl,HBF.out⟩
     ·obtain rfl:ge=0:=of_decide_eq_true hgz
      clear hgz
      go_wp2
      exact⟨⟨j+1,by omega,by go_num,hS1⟩,by simp[intOf];omega⟩
    ·have ejl:l=j:=by omega
     subst ejl
     rename World=>wG
     have HBG:=aZ (HBX.out.trans (hb.out.mono HBX.out.size))
     have HYG:=aZ (HYX.out.keep hb.out)
     have HZG:=aZ (HZX.out.keep hb.out)
     have HPG:=aZ (And.intro (HPX.out.1.below hb.out) (HPX.out.2.below hb.out))
     clear hb hlt hj HBX HYX HZX HPX
     obtain⟨x0,x1,x2,x3⟩:=HPG.out.1
     go_wp2_with fail
     refine(HBK.out wG _ _ HPG.out.2 HYG.out.cs).mono ?_
     rintro z wH ⟨Aa,ca,rfl,hwa,hbh⟩
     have HWA:=aZ hwa
     have HYH:=aZ (HYG.out.keep hbh)
     have HZH:=aZ (HZG.out.keep hbh)
     have HPH:=aZ (And.intro (HPG.out.1.below hbh) (HPG.out.2.below hbh))
     have HBH:=aZ (HBG.out.trans (hbh.mono HBG.out.size))
     clear hwa hbh x0 x1 x2 x3 HYG HZG HPG HBG
     obtain⟨x0,x1,x2,x3⟩:=HPH.out.1
     go_wp2_with fail
     refine(HBK.out wH _ _ HPH.out.2 HZH.out.cs).mono ?_
     rintro z wK ⟨Ab,cb,rfl,hwb,hbk⟩
     have HWB:=aZ hwb
     have HWA2:=aZ (HWA.out.keep hbk)
     have HYK:=aZ (HYH.out.keep hbk)
     have HZK:=aZ (HZH.out.keep hbk)
     have HBK2:=aZ (HBH.out.trans (hbk.mono HBH.out.size))
     clear hwb hbk x0 x1 x2 x3 HWA HYH HZH HPH HBH HBK
     go_wp2_with fail
     go_loopw [23,135] (λ_ vi wr=>∃j:Nat,j<=la/\vi=.int .i64 j/\Hid (Below wK.heap.size wK wr)) (λ_ vi _=>la-(intOf vi).toNat)
     case atStart=>exact⟨0,by omega,rfl,aZ (Below.refl _ _)⟩
     case round=>
      obtain⟨j,hj,rfl,hb⟩:=hrel
      by_cases hlt:j<la
      ·have hji:(j:Int)<la:=by omega
       have hla3:la<=300:=by have:=HLL.out;have:=HNN.out;omega
       have hj9:j+1<=1000:=by omega
       obtain⟨t,ht⟩:∃t:Nat,j/2=t:=⟨_,rfl⟩
       have htl:t<l:=by have:=HLL.out;omega
       have htli:(t:Int)<l:=by omega
       have ht9:t<9223372036854775808:=by omega
       have hti:(j:Int)/2=(t:Int):=by omega
       obtain⟨ba,oa,rfl,d0,hF⟩:=(HWA2.out.keep hb.out) j hlt
       obtain⟨bb,ob,rfl,d1,-⟩:=(HWB.out.keep hb.out) j hlt
       obtain⟨u,hu⟩:∃u,bw j=u:=⟨_,rfl⟩
       rw[hu] at d0 d1 hF
       have ho:=ord_self hF
       obtain⟨y,y0,y1,-,-,hy⟩:=(HYK.out.keep hb.out) t htl
       obtain⟨v,z0,z1,-,-,hz⟩:=(HZK.out.keep hb.out) t htl
       obtain⟨ez1,ez2,oy1,oy2⟩:=same_fin12 hy hz (HFY.out t htl)
       rw[ez1] at z0
       rw[ez2] at z1
       have HBR:=aZ hb.out.drew
       have q1:=neq_C12 y oy1 oy2
       have q0:Tryz.prog.eqGuardType Tryz.prog.depth 52=false:=by kernel_rfl
       have hq0:wrap64 ((j:Int)/2)=(t:Int):=by rw[hti];exact wrap64_nat t ht9
       have hq1:IntKind.i64.wrap ((j:Int)/2)=(t:Int):=by rw[hti];exact wrapI_nat t ht9
       clear hy hz ez1 ez2 oy1 oy2 hb hu hF ht hti ht9 hla3
       go_upto_region 33 with(fail)
       refine wp_region_T (λw'=>(w'.cell? ⟨ba,oa+j,none⟩=some (.float .f64 u)/\w'.cell? ⟨bb,ob+j,none⟩=some (.float .f64 u))/\((w'.cell? ⟨gy,t*2,none⟩=some (.float .f64 y.1)/\w'.cell? ⟨gy,t*2+1,none⟩=some (.float .f64 y.2))/\(w'.cell? ⟨gz,t*2,none⟩=some (.float .f64 y.1)/\w'.cell? ⟨gz,t*2+1,none⟩=some (.float .f64 y.2)))) 20 ⟨⟨d0,d1⟩,⟨y0,y1⟩,z0,z1⟩ (λhS0=>?_)
       refine Takes.intro [0,1,2,3,4,5,6,7,8,9,10,11,12,13,14,15,16,17,18,19] ?_
       repeat(first|(refine Takes.go (v:=?_) hS0 ?_;try simp only[nrm,Act.put])|(refine Takes.stepG (v:=?_) (by kernel_rfl) rfl (λ_ _ _ h=>h) rfl hS0 (λw hSw=>by(try dsimp only at hSw);go_simp;try with_reducible rfl) ?_;try simp only[nrm,Act.put])|(refine Takes.skip (by kernel_rfl) rfl (λ_ _ _ h=>h) rfl hS0 ?_;try simp only[nrm,Act.put]))
       refine Takes.nil ?_
       refine wpAnyS_fin 2 20 ?_
       simp only[nrd]
       clear hS0 d0 d1 y0 y1 z0 z1 hq0 hq1
       go_wp2
       exact⟨⟨j+1,by omega,by go_num,HBR⟩,by simp[intOf];omega⟩
      ·obtain rfl:j=la:=by omega
       have HBF:=aZ (HBK2.out.trans (hb.out.mono HBK2.out.size))
       clear hb
       go_wp2
       go_ret
       exact⟨rfl,HBF.out⟩
end Go.Proofs.YtmgfaeineklccaaGreat
