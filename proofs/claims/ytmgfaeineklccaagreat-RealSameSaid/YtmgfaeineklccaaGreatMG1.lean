/- Layer 21: real.even. -/
import Derived.Test.YtmgfaeineklccaaGreatX0
import Derived.Test.YtmgfaeineklccaaGreatMI2
import Derived.Test.YtmgfaeineklccaaGreatMY1
import Derived.Test.YtmgfaeineklccaaGreatMI3
import Derived.Test.YtmgfaeineklccaaGreatMC4
import Derived.Great.BuildSlice
set_option maxRecDepth 100000
set_option maxHeartbeats 4000000
set_option linter.unusedSimpArgs false
set_option linter.unusedVariables false
namespace Go.Proofs.YtmgfaeineklccaaGreat
open Go.RowKit Go.Lib
def evC(x:Nat->Nat):Nat->Cx:=λk=>(x (2*k),x (2*k+1))
def evV(Z:Nat->Cx)(m n j:Nat):Cx:=cadd (chalf (cadd (Z (j%m)) (cconj (Z ((m-j)%m))))) (cmul (cturn3 (chalf (csub (Z (j%m)) (cconj (Z ((m-j)%m)))))) (hroot j n))
def evF(Z:Nat->Cx)(m n:Nat):Nat->Cx:=updT (evV Z m n) m ((evV Z m n m).1,0)
theorem even_any(kind r:Int)(q:Fo)(m:Nat)(F:Tr Cx)(P:PlanE kind r q m F)(C:ChkC kind m r q m 0)(A:Option Addr)(c:Nat)(X:Option Addr)(n cx:Nat)(x:Nat->Nat)(w:World)(hk:Kids w A 0 q)(hX:FsAt w X n x)(hn:n=2*m)(m1:1<=m)(m2:m<=8192)(hg:guardE (evC x) m=0):
  Calls Tryz.prog 83 #[plV kind m r A q.len c,.slice X n cx] w λz w'=>∃g,z=.returned (.slice (some ⟨g,0,none⟩) (m+1:Nat) (m+1:Nat))/\w.heap.size<=g/\g<w'.heap.size/\RowC w' g (m+1) (evF (F (-1) (evC x)) m n)/\Below w.heap.size w w':=by
 have MO:=Mem.plain_ok
 obtain⟨Z,hZZ⟩:∃Z,F (-1) (evC x)=Z:=⟨_,rfl⟩
 rw[hZZ]
 have HZZ:=aZ hZZ
 clear hZZ
 obtain⟨W,hW⟩:∃W,W=w.alloc (.cells #[.int .i64 kind,.int .i64 m,.int .i64 r,.slice A q.len c] 27):=⟨_,rfl⟩
 have hbb:Below w.heap.size w W:=by rw[hW];exact(Below.refl _ w).alloc (Nat.le_refl _) _
 obtain⟨p0,p1,p2,p3⟩:=PlBox.new w kind m r A q.len c 27
 rw[<-hW] at p0 p1 p2 p3
 obtain⟨bP,hbP⟩:∃bP,bP=w.heap.size:=⟨_,rfl⟩
 rw[<-hbP] at p0 p1 p2 p3
 have HPB:=aZ (And.intro p0 (And.intro p1 (And.intro p2 p3)))
 have HB:=aZ hbb
 have HK:=aZ (hk.below hbb)
 have HX:=aZ (hX.keep hbb)
 have HP:=aZ P
 have HC:=aZ C
 have HG:=aZ hg
 have HN:=aZ (And.intro hn (And.intro m1 m2))
 have hmk:=mk_C m (by omega)
 obtain⟨m3,hm3⟩:∃m3:Nat,m+1=m3:=⟨_,rfl⟩
 rw[hm3]
 have hmk3:=mk_C m3 (by omega)
 have hq0:wrap64 ((n:Int)/2)=(m:Int):=by rw[show(n:Int)/2=(m:Int) by omega];exact wrap64_nat m (by omega)
 have hq1:IntKind.i64.wrap ((n:Int)/2)=(m:Int):=by rw[show(n:Int)/2=(m:Int) by omega];exact wrapI_nat m (by omega)
 have hq2:wrap64 ((m:Int)+1)=(m3:Int):=by rw[show(m:Int)+1=(m3:Int) by omega];exact wrap64_nat m3 (by omega)
 have hq3:IntKind.i64.wrap ((m:Int)+1)=(m3:Int):=by rw[show(m:Int)+1=(m3:Int) by omega];exact wrapI_nat m3 (by omega)
 have HM3:=aZ hm3
 clear hk hX P C hg p0 p1 p2 p3 hbb hn m1 m2 hm3
 go_enter Tryz.func83,Tryz.ntmps83
 go_upto_region 1 with(fail)
 rw[<-hW,<-hbP]
 clear hW hbP
 go_wp2
 clear hmk
 go_loopw [23] (λvi wr=>∃k:Nat,k<=m/\vi=.int .i64 k/\Hid (OwnC Mem.plain wr W.heap.size m (upToC k (evC x)))/\Hid (Mem.plain.On W wr)) (λvi _=>m-(intOf vi).toNat)
 case atStart=>
  obtain⟨h1,h2⟩:=OwnC.make MO (MO.on_refl (w:=W) trivial) m 52
  exact⟨0,by omega,rfl,aZ h1.empty,aZ h2⟩
 case round=>
  obtain⟨k,hk,rfl,hr,hb⟩:=hrel
  by_cases hlt:k<m
  ·have hki:(k:Int)<m:=by omega
   have hk9:k+1<=32768:=by have:=HN.out;omega
   obtain⟨d,hd⟩:∃d,2*k=d:=⟨_,rfl⟩
   obtain⟨e,he⟩:∃e,d+1=e:=⟨_,rfl⟩
   have hdn:d<n:=by have:=HN.out;omega
   have hen:e<n:=by have:=HN.out;omega
   have hn9:n<=32768:=by have:=HN.out;omega
   obtain⟨b,o,u,rfl,hcd,hud⟩:=(HX.out.keep hb.out.fr) d hdn
   obtain⟨b',o',v,e',hce,hve⟩:=(HX.out.keep hb.out.fr) e hen
   cases e'
   have HUV:Hid (nC (u,v)=evC x k):=aZ (by unfold nC evC;dsimp only;rw[hud,hve,<-he,<-hd])
   have hd0:wrap64 (2*(k:Int))=(d:Int):=by rw[show 2*(k:Int)=(d:Int) by omega];exact wrap64_nat d (by omega)
   have hd1:IntKind.i64.wrap (2*(k:Int))=(d:Int):=by rw[show 2*(k:Int)=(d:Int) by omega];exact wrapI_nat d (by omega)
   have he0:wrap64 ((d:Int)+1)=(e:Int):=by rw[show(d:Int)+1=(e:Int) by omega];exact wrap64_nat e (by omega)
   have he1:IntKind.i64.wrap ((d:Int)+1)=(e:Int):=by rw[show(d:Int)+1=(e:Int) by omega];exact wrapI_nat e (by omega)
   have hdi:(d:Int)<n:=by omega
   have hei:(e:Int)<n:=by omega
   clear hd he hud hve hn9
   go_upto_region 7 with(fail)
   refine wp_region_T (λw'=>w'.cell? ⟨b,o+d,none⟩=some (.float .f64 (u:Nat))/\w'.cell? ⟨b,o+e,none⟩=some (.float .f64 (v:Nat))) 14 ⟨hcd,hce⟩ (λhS0=>?_)
   refine Takes.intro [0,1,2,3,4,5,6,7,8,9,10,11,12,13] ?_
   repeat(refine Takes.go (v:=?_) hS0 ?_;try simp only[nrm,Act.put])
   refine Takes.nil ?_
   refine wpAnyS_fin 2 14 ?_
   simp only[nrd]
   obtain⟨u0,r1,r2,r3,r4,-⟩:=hr.out.row k hlt
   have HN2:=aZ (hr.out.set MO hb.out (Nat.le_refl _) hlt (u,v))
   clear hS0 hr hb hcd hce
   go_wp2
   exact⟨⟨k+1,by omega,by go_num,aZ ((HN2.out.1.nextC HUV.out).keep MO ((MO.on_refl trivial).drew MO) trivial),aZ (HN2.out.2.drew MO)⟩,by simp[intOf];omega⟩
  ·obtain rfl:k=m:=by omega
   have HZ0:=aZ hr.out.full
   have p0:=on_cell MO trivial hb HPB.out.1
   have p1:=on_cell MO trivial hb HPB.out.2.1
   have p2:=on_cell MO trivial hb HPB.out.2.2.1
   have p3:=on_cell MO trivial hb HPB.out.2.2.2
   have HCL:=aZ (Execute_ok kind r q k F HP.out HC.out A c (some ⟨W.heap.size,0,none⟩) k (evC x) (-1) wr (HK.out.below hb.out.fr) HZ0.out.cs (by have:=HN.out;omega) (.inr rfl) HG.out)
   have HBw:Hid (Below w.heap.size w wr):=aZ (HB.out.trans (hb.out.fr.mono HB.out.size))
   clear hr hb hlt HZ0 HK HX HPB
   go_wp2_with fail
   refine HCL.out.mono ?_
   rintro z w1 ⟨gZ,rfl,-,hgZ,hZ,hb1⟩
   have HZ:=aZ hZ
   have HB1:Hid (Below w.heap.size w w1):=aZ (HBw.out.trans (hb1.mono HBw.out.size))
   clear hb1 hZ p0 p1 p2 p3 HCL HBw hgZ HP HC HG
   rw[HZZ.out] at HZ
   go_wp2
   clear hmk3 hq0 hq1 hq2 hq3
   go_loopw [53] (λvi wr=>∃j:Nat,j<=m3/\vi=.int .i64 j/\Hid (OwnC Mem.plain wr w1.heap.size m3 (upToC j (evV Z k n)))/\Hid (Mem.plain.On w1 wr)) (λvi _=>m3-(intOf vi).toNat)
   case atStart=>
    obtain⟨h1,h2⟩:=OwnC.make MO (MO.on_refl (w:=w1) trivial) m3 52
    exact⟨0,by omega,rfl,aZ h1.empty,aZ h2⟩
   case round=>
    rename World=>wr
    obtain⟨j,hj,rfl,HOWN,hb⟩:=hrel
    by_cases hlt:j<m3
    ·have hji:(j:Int)<m3:=by omega
     have hk0:¬(k:Int)=0:=by have:=HN.out;omega
     have hk0n:¬k=0:=by omega
     obtain⟨a,ha⟩:∃a,j%k=a:=⟨_,rfl⟩
     obtain⟨s,hs⟩:∃s,k-j=s:=⟨_,rfl⟩
     obtain⟨b,hbe⟩:∃b,s%k=b:=⟨_,rfl⟩
     have hak:a<k:=by rw[<-ha];exact Nat.mod_lt _ (by omega)
     have hbk:b<k:=by rw[<-hbe];exact Nat.mod_lt _ (by omega)
     have hai:(a:Int)<k:=by omega
     have hbi:(b:Int)<k:=by omega
     have hjk:j<=k:=by have:=HM3.out;omega
     have hj9:j+1<=32768:=by have:=HN.out;omega
     have hat:(j:Int).tmod k=(a:Int):=by rw[Int.tmod_eq_emod_of_nonneg (by omega),<-Int.natCast_emod,ha]
     have hae:(j:Int)%k=(a:Int):=by rw[<-Int.natCast_emod,ha]
     have hbt:(s:Int).tmod k=(b:Int):=by rw[Int.tmod_eq_emod_of_nonneg (by omega),<-Int.natCast_emod,hbe]
     have hbm:(s:Int)%k=(b:Int):=by rw[<-Int.natCast_emod,hbe]
     have hs9:s<=32768:=by have:=HN.out;omega
     have hs0:wrap64 ((k:Int)-j)=(s:Int):=by rw[show(k:Int)-j=(s:Int) by omega];exact wrap64_nat s (by omega)
     have hs1:IntKind.i64.wrap ((k:Int)-j)=(s:Int):=by rw[show(k:Int)-j=(s:Int) by omega];exact wrapI_nat s (by omega)
     have HJB:Hid (-65536<=(j:Int)/\(j:Int)<=65536/\(1:Int)<=n/\(n:Int)<=65536):=aZ (by have:=HN.out;omega)
     obtain⟨za,z1,z2,-,-,hza⟩:=(HZ.out.keep hb.out.fr) a hak
     obtain⟨zb,z3,z4,-,-,hzb⟩:=(HZ.out.keep hb.out.fr) b hbk
     obtain⟨zc,hzc⟩:∃zc:Rx,(zb.1,negF zb.2)=zc:=⟨_,rfl⟩
     have HVZ:Hid (nC za=Z (j%k)/\nC zc=cconj (Z ((k-j)%k))):=aZ ⟨by rw[hza,ha],by rw[<-hzc,nC_conj,hzb,hs,hbe]⟩
     have HC:Hid ((wr.cell? ⟨gZ,a*2,none⟩=some (.float .f64 za.1))/\(wr.cell? ⟨gZ,a*2+1,none⟩=some (.float .f64 za.2))/\(wr.cell? ⟨gZ,b*2,none⟩=some (.float .f64 zb.1))/\(wr.cell? ⟨gZ,b*2+1,none⟩=some (.float .f64 zb.2))):=aZ ⟨z1,z2,z3,z4⟩
     clear ha hs hbe hjk hs9 z1 z2 z3 z4 hza hzb hak hbk
     have HS14:Hid (∀w',Hid (Mem.plain.On wr w')->(w'.cell? ⟨gZ,a*2,none⟩=some (.float .f64 za.1)/\w'.cell? ⟨gZ,a*2+1,none⟩=some (.float .f64 za.2)/\w'.cell? ⟨gZ,b*2,none⟩=some (.float .f64 zb.1)/\w'.cell? ⟨gZ,b*2+1,none⟩=some (.float .f64 zb.2)/\Hid (Mem.plain.On wr w'))):=aZ (λw' h=>⟨on_cell MO trivial h HC.out.1,on_cell MO trivial h HC.out.2.1,on_cell MO trivial h HC.out.2.2.1,on_cell MO trivial h HC.out.2.2.2,h⟩)
     go_upto_region 14 with(fail)
     refine wp_region_S (λw'=>(w'.cell? ⟨gZ,a*2,none⟩=some (.float .f64 za.1)/\w'.cell? ⟨gZ,a*2+1,none⟩=some (.float .f64 za.2)/\w'.cell? ⟨gZ,b*2,none⟩=some (.float .f64 zb.1)/\w'.cell? ⟨gZ,b*2+1,none⟩=some (.float .f64 zb.2)/\Hid (Mem.plain.On wr w'))) 17 (by kernel_rfl) ?_
     have hS0:=HS14.out _ (aZ ((MO.on_refl trivial).drew MO))
     refine Takes.intro [0,1,2,3,4,5,6,7,8,9,10,11,12,13] ?_
     repeat(refine Takes.go (v:=?_) hS0 ?_;try simp only[nrm,Act.put])
     refine Takes.nil ?_
     refine wpFl_begin 15 16 11 12 (FlC Mem.plain wr.heap.size) (by simp) (by simp) hS0 (λx1 x2=>FlC.start _ _ _ _) ?_
     clear hS0
     refine wpFl_one 14 70 (floatsC MO (D:=wr) (λw h=>h.2.2.2.2.out) (λw h=>HS14.out w (aZ h)) (by decide) (by decide) ⟨_,rfl,rfl,rfl,rfl⟩ ⟨_,rfl,rfl,rfl,rfl⟩) (by kernel_rfl) rfl rfl rfl (by decide) (by decide) (by decide) (by decide) ?_
     intro g1 x1 g2 x2 wa hSa hFa K hK
     try simp only[ptA,List.getElem_toArray,List.getElem_cons_zero,List.getElem_cons_succ,Act.put,List.setIfInBounds_toArray,List.set_cons_zero,List.set_cons_succ] at hK|-
     go_simp
     refine(Conj_any zb _).mono ?_
     rintro z wz ⟨hz,hb2⟩
     rw[hzc] at hz
     subst hz
     have hb3:Mem.plain.On wa wz:=⟨trivial,hb2⟩
     refine hK.out _ _ (HS14.out _ (aZ (hSa.2.2.2.2.out.trans MO hb3))) (FlC.keep MO hFa hb3 trivial) ?_
     clear hK K hb2 hb3 hFa hSa
     try simp only[ptA,List.getElem_toArray,List.getElem_cons_zero,List.getElem_cons_succ,Act.put,List.setIfInBounds_toArray,List.set_cons_zero,List.set_cons_succ]
     refine wpFl_end 2 17 (floatsC MO (D:=wr) (λw h=>h.2.2.2.2.out) (λw h=>HS14.out w (aZ h)) (by decide) (by decide) ⟨_,rfl,rfl,rfl,rfl⟩ ⟨_,rfl,rfl,rfl,rfl⟩) (by kernel_rfl) (by decide) rfl ?_
     intro x1 x2 wa hSa hFa
     obtain⟨p1,p2,rfl,rfl,hpp,lp1,lp2,bp1,bp2⟩:=hFa.done
     simp only[nrd]
     try simp only[ptA,List.getElem_toArray,List.getElem_cons_zero,List.getElem_cons_succ,Act.put,List.setIfInBounds_toArray,List.set_cons_zero,List.set_cons_succ]
     obtain⟨k0,k1,k2,k3,k4,k5⟩:=box2 MO hSa.2.2.2.2.out trivial lp1 lp2 hpp bp1 bp2 za zc
     unfold setB at k0 k1 k2 k3 k4 k5
     obtain⟨i0,i1,i2,i3,-,-⟩:=bp1
     obtain⟨j0,j1,j2,j3,-,-⟩:=k0
     go_upto_region 15 with(fail)
     obtain⟨wA,hW⟩:∃wA,wA=(((wa.setCell ⟨p1,0,none⟩ (.float .f64 za.1)).setCell ⟨p1,1,none⟩ (.float .f64 za.2)).setCell ⟨p2,0,none⟩ (.float .f64 zc.1)).setCell ⟨p2,1,none⟩ (.float .f64 zc.2):=⟨_,rfl⟩
     rw[<-hW] at k1 k2 k3 k4 k5|-
     obtain⟨gA,hp1⟩:∃gA,gA=p1:=⟨_,rfl⟩
     obtain⟨gB,hp2⟩:∃gB,gB=p2:=⟨_,rfl⟩
     rw[<-hp1] at k1 lp1|-
     rw[<-hp2] at k2 lp2|-
     have HU_wA:=aZ k1
     have HV_wA:=aZ k2
     have HD_wA:=aZ k3
     have HG_wA:=aZ (k5 _ _ _ HOWN.out)
     clear i0 i1 i2 i3 j0 j1 j2 j3 k1 k2 k3 k4 k5 hW hp1 hp2 lp1 lp2 hpp hSa hFa
     clear HS14 HC hzc
     have HO_wA:=aZ (hb.out.trans MO HD_wA.out)
     have HS15:Hid (∀w',Hid (Mem.plain.On wA w')->(w'.cell? ⟨gA,0,none⟩=some (.float .f64 za.1)/\w'.cell? ⟨gA,1,none⟩=some (.float .f64 za.2)/\w'.cell? ⟨gB,0,none⟩=some (.float .f64 zc.1)/\w'.cell? ⟨gB,1,none⟩=some (.float .f64 zc.2)/\Hid (Mem.plain.On wA w'))):=aZ (λw' h=>⟨on_cell MO trivial h HU_wA.out.c0,on_cell MO trivial h HU_wA.out.c1,on_cell MO trivial h HV_wA.out.c0,on_cell MO trivial h HV_wA.out.c1,h⟩)
     go_upto_region 15 with(fail)
     refine wp_region_S (λw'=>(w'.cell? ⟨gA,0,none⟩=some (.float .f64 za.1)/\w'.cell? ⟨gA,1,none⟩=some (.float .f64 za.2)/\w'.cell? ⟨gB,0,none⟩=some (.float .f64 zc.1)/\w'.cell? ⟨gB,1,none⟩=some (.float .f64 zc.2)/\Hid (Mem.plain.On wA w'))) 11 (by kernel_rfl) ?_
     have hS0:=HS15.out _ (aZ ((MO.on_refl trivial).drew MO))
     refine Takes.intro [0,1,4,5] ?_
     repeat(refine Takes.go (v:=?_) hS0 ?_;try simp only[nrm,Act.put])
     refine Takes.nil ?_
     refine wpFl_begin 9 10 13 14 (FlC Mem.plain wA.heap.size) (by simp) (by simp) hS0 (λx1 x2=>FlC.start _ _ _ _) ?_
     clear hS0
     refine wpFl_one 2 73 (floatsC MO (D:=wA) (λw h=>h.2.2.2.2.out) (λw h=>HS15.out w (aZ h)) (by decide) (by decide) ⟨_,rfl,rfl,rfl,rfl⟩ ⟨_,rfl,rfl,rfl,rfl⟩) (by kernel_rfl) rfl rfl rfl (by decide) (by decide) (by decide) (by decide) ?_
     intro g1 x1 g2 x2 wa hSa hFa K hK
     try simp only[ptA,List.getElem_toArray,List.getElem_cons_zero,List.getElem_cons_succ,Act.put,List.setIfInBounds_toArray,List.set_cons_zero,List.set_cons_succ] at hK|-
     go_simp
     refine(addC_any za zc _).mono ?_
     rintro z wz ⟨⟨q1,rfl,hq1⟩,hb2⟩
     have HQ1:=aZ hq1
     clear hq1
     have hb3:Mem.plain.On wa wz:=⟨trivial,hb2⟩
     refine hK.out _ _ (HS15.out _ (aZ (hSa.2.2.2.2.out.trans MO hb3))) (FlC.keep MO hFa hb3 trivial) ?_
     clear hK K hb2 hb3 hFa hSa
     try simp only[ptA,List.getElem_toArray,List.getElem_cons_zero,List.getElem_cons_succ,Act.put,List.setIfInBounds_toArray,List.set_cons_zero,List.set_cons_succ]
     refine wpFl_one 3 74 (floatsC MO (D:=wA) (λw h=>h.2.2.2.2.out) (λw h=>HS15.out w (aZ h)) (by decide) (by decide) ⟨_,rfl,rfl,rfl,rfl⟩ ⟨_,rfl,rfl,rfl,rfl⟩) (by kernel_rfl) rfl rfl rfl (by decide) (by decide) (by decide) (by decide) ?_
     intro g1 x1 g2 x2 wa hSa hFa K hK
     try simp only[ptA,List.getElem_toArray,List.getElem_cons_zero,List.getElem_cons_succ,Act.put,List.setIfInBounds_toArray,List.set_cons_zero,List.set_cons_succ] at hK|-
     go_simp
     refine(half_any q1 _).mono ?_
     rintro z wz ⟨⟨q2,rfl,hq2⟩,hb2⟩
     have HQ2:=aZ hq2
     clear hq2
     have hb3:Mem.plain.On wa wz:=⟨trivial,hb2⟩
     refine hK.out _ _ (HS15.out _ (aZ (hSa.2.2.2.2.out.trans MO hb3))) (FlC.keep MO hFa hb3 trivial) ?_
     clear hK K hb2 hb3 hFa hSa
     try simp only[ptA,List.getElem_toArray,List.getElem_cons_zero,List.getElem_cons_succ,Act.put,List.setIfInBounds_toArray,List.set_cons_zero,List.set_cons_succ]
     refine wpFl_one 6 77 (floatsC MO (D:=wA) (λw h=>h.2.2.2.2.out) (λw h=>HS15.out w (aZ h)) (by decide) (by decide) ⟨_,rfl,rfl,rfl,rfl⟩ ⟨_,rfl,rfl,rfl,rfl⟩) (by kernel_rfl) rfl rfl rfl (by decide) (by decide) (by decide) (by decide) ?_
     intro g1 x1 g2 x2 wa hSa hFa K hK
     try simp only[ptA,List.getElem_toArray,List.getElem_cons_zero,List.getElem_cons_succ,Act.put,List.setIfInBounds_toArray,List.set_cons_zero,List.set_cons_succ] at hK|-
     go_simp
     refine(subC_any za zc _).mono ?_
     rintro z wz ⟨⟨q3,rfl,hq3⟩,hb2⟩
     have HQ3:=aZ hq3
     clear hq3
     have hb3:Mem.plain.On wa wz:=⟨trivial,hb2⟩
     refine hK.out _ _ (HS15.out _ (aZ (hSa.2.2.2.2.out.trans MO hb3))) (FlC.keep MO hFa hb3 trivial) ?_
     clear hK K hb2 hb3 hFa hSa
     try simp only[ptA,List.getElem_toArray,List.getElem_cons_zero,List.getElem_cons_succ,Act.put,List.setIfInBounds_toArray,List.set_cons_zero,List.set_cons_succ]
     refine wpFl_one 7 78 (floatsC MO (D:=wA) (λw h=>h.2.2.2.2.out) (λw h=>HS15.out w (aZ h)) (by decide) (by decide) ⟨_,rfl,rfl,rfl,rfl⟩ ⟨_,rfl,rfl,rfl,rfl⟩) (by kernel_rfl) rfl rfl rfl (by decide) (by decide) (by decide) (by decide) ?_
     intro g1 x1 g2 x2 wa hSa hFa K hK
     try simp only[ptA,List.getElem_toArray,List.getElem_cons_zero,List.getElem_cons_succ,Act.put,List.setIfInBounds_toArray,List.set_cons_zero,List.set_cons_succ] at hK|-
     go_simp
     refine(half_any q3 _).mono ?_
     rintro z wz ⟨⟨q4,rfl,hq4⟩,hb2⟩
     have HQ4:=aZ hq4
     clear hq4
     have hb3:Mem.plain.On wa wz:=⟨trivial,hb2⟩
     refine hK.out _ _ (HS15.out _ (aZ (hSa.2.2.2.2.out.trans MO hb3))) (FlC.keep MO hFa hb3 trivial) ?_
     clear hK K hb2 hb3 hFa hSa
     try simp only[ptA,List.getElem_toArray,List.getElem_cons_zero,List.getElem_cons_succ,Act.put,List.setIfInBounds_toArray,List.set_cons_zero,List.set_cons_succ]
     refine wpFl_one 8 79 (floatsC MO (D:=wA) (λw h=>h.2.2.2.2.out) (λw h=>HS15.out w (aZ h)) (by decide) (by decide) ⟨_,rfl,rfl,rfl,rfl⟩ ⟨_,rfl,rfl,rfl,rfl⟩) (by kernel_rfl) rfl rfl rfl (by decide) (by decide) (by decide) (by decide) ?_
     intro g1 x1 g2 x2 wa hSa hFa K hK
     try simp only[ptA,List.getElem_toArray,List.getElem_cons_zero,List.getElem_cons_succ,Act.put,List.setIfInBounds_toArray,List.set_cons_zero,List.set_cons_succ] at hK|-
     go_simp
     refine(Turn3_any q4 _).mono ?_
     rintro z wz ⟨hz,hb2⟩
     obtain⟨q5,hq5⟩:∃q5:Rx,(q4.2,negF q4.1)=q5:=⟨_,rfl⟩
     rw[hq5] at hz
     subst hz
     have HQ5:Hid (nC q5=cturn3 (nC q4)):=aZ (by rw[<-hq5];exact nC_turn3 q4)
     clear hq5
     have hb3:Mem.plain.On wa wz:=⟨trivial,hb2⟩
     refine hK.out _ _ (HS15.out _ (aZ (hSa.2.2.2.2.out.trans MO hb3))) (FlC.keep MO hFa hb3 trivial) ?_
     clear hK K hb2 hb3 hFa hSa
     try simp only[ptA,List.getElem_toArray,List.getElem_cons_zero,List.getElem_cons_succ,Act.put,List.setIfInBounds_toArray,List.set_cons_zero,List.set_cons_succ]
     refine wpFl_end 2 11 (floatsC MO (D:=wA) (λw h=>h.2.2.2.2.out) (λw h=>HS15.out w (aZ h)) (by decide) (by decide) ⟨_,rfl,rfl,rfl,rfl⟩ ⟨_,rfl,rfl,rfl,rfl⟩) (by kernel_rfl) (by decide) rfl ?_
     intro x1 x2 wa hSa hFa
     obtain⟨p1,p2,rfl,rfl,hpp,lp1,lp2,bp1,bp2⟩:=hFa.done
     simp only[nrd]
     try simp only[ptA,List.getElem_toArray,List.getElem_cons_zero,List.getElem_cons_succ,Act.put,List.setIfInBounds_toArray,List.set_cons_zero,List.set_cons_succ]
     obtain⟨k0,k1,k2,k3,k4,k5⟩:=box2 MO hSa.2.2.2.2.out trivial lp1 lp2 hpp bp1 bp2 q2 q5
     unfold setB at k0 k1 k2 k3 k4 k5
     obtain⟨i0,i1,i2,i3,-,-⟩:=bp1
     obtain⟨j0,j1,j2,j3,-,-⟩:=k0
     go_upto_region 16 with(fail)
     obtain⟨wB,hW⟩:∃wB,wB=(((wa.setCell ⟨p1,0,none⟩ (.float .f64 q2.1)).setCell ⟨p1,1,none⟩ (.float .f64 q2.2)).setCell ⟨p2,0,none⟩ (.float .f64 q5.1)).setCell ⟨p2,1,none⟩ (.float .f64 q5.2):=⟨_,rfl⟩
     rw[<-hW] at k1 k2 k3 k4 k5|-
     obtain⟨gE,hp1⟩:∃gE,gE=p1:=⟨_,rfl⟩
     obtain⟨gO,hp2⟩:∃gO,gO=p2:=⟨_,rfl⟩
     rw[<-hp1] at k1 lp1|-
     rw[<-hp2] at k2 lp2|-
     have HU_wB:=aZ k1
     have HV_wB:=aZ k2
     have HD_wB:=aZ k3
     have HG_wB:=aZ (k5 _ _ _ HG_wA.out)
     clear i0 i1 i2 i3 j0 j1 j2 j3 k1 k2 k3 k4 k5 hW hp1 hp2 lp1 lp2 hpp hSa hFa
     have HO_wB:=aZ (HO_wA.out.trans MO HD_wB.out)
     have HV8:Hid (∀a b c:Cx,nC q2=a->True):=aZ (λ_ _ _ _=>trivial)
     clear HS15 HD_wA HD_wB HU_wA HV_wA HG_wA HOWN hb HV8
     have HS16:Hid (∀w',Hid (Mem.plain.On wB w')->w'.cell? ⟨gE,0,none⟩=some (.float .f64 q2.1)/\w'.cell? ⟨gE,1,none⟩=some (.float .f64 q2.2)/\w'.cell? ⟨gO,0,none⟩=some (.float .f64 q5.1)/\w'.cell? ⟨gO,1,none⟩=some (.float .f64 q5.2)/\Hid (Mem.plain.On wB w')):=aZ (λw' h=>⟨on_cell MO trivial h HU_wB.out.c0,on_cell MO trivial h HU_wB.out.c1,on_cell MO trivial h HV_wB.out.c0,on_cell MO trivial h HV_wB.out.c1,h⟩)
     go_upto_region 16 with(fail)
     refine wp_region_S (λw'=>w'.cell? ⟨gE,0,none⟩=some (.float .f64 q2.1)/\w'.cell? ⟨gE,1,none⟩=some (.float .f64 q2.2)/\w'.cell? ⟨gO,0,none⟩=some (.float .f64 q5.1)/\w'.cell? ⟨gO,1,none⟩=some (.float .f64 q5.2)/\Hid (Mem.plain.On wB w')) 9 (by kernel_rfl) ?_
     have hS0:=HS16.out _ (aZ ((MO.on_refl trivial).drew MO))
     refine Takes.intro [0,1,2,3,4,5] ?_
     repeat(refine Takes.go (v:=?_) hS0 ?_;try simp only[nrm,Act.put])
     refine Takes.nil ?_
     refine wpAnyS_1 6 (λK hK=>?_)
     go_simp
     refine(root_any (j:Int) n _ HJB.out.1 HJB.out.2.1 HJB.out.2.2.1 HJB.out.2.2.2).mono ?_
     rintro z wz1 ⟨⟨q6,rfl,hq6⟩,hb2⟩
     have Hq6:=aZ hq6
     have hS1:=HS16.out _ (aZ (hS0.2.2.2.2.out.below MO hb2))
     clear hb2 hq6
     refine hK.out _ _ (λ_=>hS1) ?_
     clear hK K
     try simp only[nrm,Act.put]
     refine wpAnyS_1 7 (λK hK=>?_)
     go_simp
     refine(mulC_any q5 q6 _).mono ?_
     rintro z wz2 ⟨⟨q7,rfl,hq7⟩,hb2⟩
     have Hq7:=aZ hq7
     have hS2:=HS16.out _ (aZ (hS1.2.2.2.2.out.below MO hb2))
     clear hb2 hq7
     refine hK.out _ _ (λ_=>hS2) ?_
     clear hK K
     try simp only[nrm,Act.put]
     refine wpAnyS_1 8 (λK hK=>?_)
     go_simp
     refine(addC_any q2 q7 _).mono ?_
     rintro z wz3 ⟨⟨q8,rfl,hq8⟩,hb2⟩
     have Hq8:=aZ hq8
     have hS3:=HS16.out _ (aZ (hS2.2.2.2.2.out.below MO hb2))
     clear hb2 hq8
     refine hK.out _ _ (λ_=>hS3) ?_
     clear hK K
     try simp only[nrm,Act.put]
     refine wpAnyS_fin 2 9 ?_
     simp only[nrd]
     have hr2:=HG_wB.out.keep MO hS3.2.2.2.2.out trivial
     obtain⟨u0,r1,r2,r3,r4,-⟩:=hr2.row j hlt
     have HN2:=aZ (hr2.set MO (HO_wB.out.trans MO hS3.2.2.2.2.out) (Nat.le_refl _) hlt q8)
     have HQ8:Hid (nC q8=evV Z k n j):=aZ (by rw[Hq8.out,Hq7.out,Hq6.out,HQ2.out,HQ5.out,HQ4.out,HQ3.out,HQ1.out,HVZ.out.1,HVZ.out.2];rfl)
     clear hr2 hS0 hS1 hS2 hS3 HG_wB HO_wB HS16 HU_wB HV_wB
     go_wp2
     exact⟨⟨j+1,by omega,by go_num,aZ (HN2.out.1.nextC HQ8.out),aZ HN2.out.2⟩,by simp[intOf];omega⟩
    ·obtain rfl:j=m3:=by omega
     have hj9:j<=32768:=by have:=HN.out;have:=HM3.out;omega
     have HR:=HOWN.out.full
     have hkm:k<j:=by have:=HM3.out;omega
     have hki:(k:Int)<j:=by omega
     obtain⟨u0,r1,r2,r3,r4,-⟩:=HR.row k hkm
     have HN2:=aZ (HR.row.setIm hkm 0)
     have HLT:=aZ HR.lt
     have HBB:Hid (Below w.heap.size w (wr.setCell ⟨w1.heap.size,k*2+1,none⟩ (.float .f64 ((0:Fin 18446744073709551616):Nat)))):=aZ ((HB1.out.trans (hb.out.fr.mono HB1.out.size)).setCell (p:=⟨w1.heap.size,_,none⟩) HB1.out.size _)
     clear hlt HR
     go_wp2
     go_ret
     refine⟨w1.heap.size,rfl,HB1.out.size,by simpa using HLT.out,HN2.out.congr (λi hi=>?_),HBB.out⟩
     unfold evF
     rfl
def prV(H:Nat->Cx)(m n j:Nat):Cx:=cadd (chalf (cadd (H j) (H (j+m)))) (cturn1 (cmul (chalf (csub (H j) (H (j+m)))) (hroot (-(j:Int)) n)))
def PrL(Y:Nat->Cx)(L:List Wd)(j:Nat):Prop:=∀k,k<j->nz (L.getD (2*k) 0)=(Y k).1/\nz (L.getD (2*k+1) 0)=(Y k).2
theorem PrL.next{Y:Nat->Cx}{L:List Wd}{j:Nat}(h:PrL Y L j)(hl:L.length=2*j)(u:Rx)(hu:nC u=Y j):PrL Y (L++[u.1,u.2]) (j+1):=by
 intro k hk
 rw[List.getD_eq_getElem?_getD,List.getD_eq_getElem?_getD]
 by_cases e:k<j
 ·rw[List.getElem?_append_left (by omega),List.getElem?_append_left (by omega)]
  have:=h k e
  rwa [List.getD_eq_getElem?_getD,List.getD_eq_getElem?_getD] at this
 ·obtain rfl:k=j:=by omega
  rw[List.getElem?_append_right (by omega),List.getElem?_append_right (by omega),hl,Nat.sub_self,show 2*k+1-2*k=1 by omega,<-hu]
  exact⟨rfl,rfl⟩
theorem owns_mono{w:World}{base base':Nat}{v:Value}{L:List Wd}(h:OwnL w base v L)(hle:base'<=base):OwnL w base' v L:=by
 refine⟨h.1,?_⟩
 rcases h.2 with hn|⟨g,cap,cur,e,hb,rest⟩
 ·exact .inl hn
 ·exact .inr ⟨g,cap,cur,e,Nat.le_trans hle hb,rest⟩
theorem wpList_app2{ops:Array Oper}{rest:List Oper}{o:Oper}{a:Act}{w:World}{Q:Exit->Act->World->Prop}(hgd:o.guard=none)(s x:Operand)(t e:TypeId)(ho:o.op=.call {callee:=.builtin .append,args:=#[s,x],argTypes:=#[t,t]})(sz bytes:Nat)(z:Value)(hU:Tryz.prog.underlying t=some (.slice e))(hI:(Tryz.prog.info? e).map (λi=>(i.zero,i.size,i.bytes))=some (some z,sz,bytes))(hzs:z.cells.size=sz)(hsz:0<sz)(hby:bytes<=64)(base:Nat)(v:Value)(k:Nat)(xs:List Value)(hs:a.eval s=v)(hown:w.ownsRow base e sz v k xs)(b c:Nat)(news:List Value)(hl:news.length=2*sz)(hx:a.eval x=.slice (some ⟨b,0,none⟩) 2 c)(hn:∀j u,news[j]?=some u->w.cell? ⟨b,j,none⟩=some u)(h1:∀u∈news,u.oneCell'=true)(hk:k+2<=1099511627776)(hbase:base<=w.heap.size)(h:∀g cap w',Hid (w'.ownsRow base e sz (.slice (some ⟨g,0,none⟩) (k+2) cap) (k+2) (xs++news))->Hid (w.grownBy w' v.ownBlock)->Hid (v.ownBlock=some g\/g=w.heap.size)->wpList Tryz.prog ops Q rest (a.put o.dst (.slice (some ⟨g,0,none⟩) (k+2) cap)) w'):wpList Tryz.prog ops Q (o::rest) a w:=by
 obtain⟨i0,hi,hz0,hz1,hz2⟩:=info_parts hI
 refine wpList_append_lies w hgd s x t ho base e i0 z sz bytes hU hi hz0 hz1 hz2 hzs hsz v k xs hs hown ⟨b,0,none⟩ 2 c news hx (by omega) ?_ h1 (by omega) (by unfold maxLen;omega) ?_ hbase _ rfl ?_
 ·intro j u hj
  have:=hn j u hj
  rw[Addr.add]
  split
  ·rename_i e;subst e;exact this
  ·simpa using this
 ·have:(k+2)*bytes<=1099511627776*64:=Nat.mul_le_mul hk hby
  omega
 ·intro g cap w' h1 h2 h3 _
  exact h g cap w' (aZ h1) (aZ h2) (aZ h3)
theorem bs2_float(u v:Wd)(w:World):(Instr.buildSlice 53 2 #[(0,.float .f64 (u:Nat)),(1,.float .f64 (v:Nat))]).run Tryz.prog w=.ok (.slice (some ⟨w.heap.size,0,none⟩) 2 2) (w.alloc (.cells #[.float .f64 (u:Nat),.float .f64 (v:Nat)] 33)):=by
 obtain⟨i0,hi,hz0,hz1,hz2⟩:=info_parts info_float
 refine run_buildSlice w 53 33 2 _ #[.float .f64 (u:Nat),.float .f64 (v:Nat)] i0 _ Tryz.underlying53 hi hz0 (by rw[hz1];decide) (by rw[hz1];decide) ?_
 rw[hz1]
 have hr:Array.range 2=#[0,1]:=by decide
 have hr1:Array.range 1=#[0]:=by decide
 simp[Instr.fill,Value.cells,hr,hr1]
theorem pairs_any(kind r:Int)(q:Fo)(m:Nat)(F:Tr Cx)(P:PlanE kind r q m F)(C:ChkC kind m r q m 0)(A:Option Addr)(c:Nat)(X:Option Addr)(l n cx:Nat)(h:Nat->Cx)(w:World)(hk:Kids w A 0 q)(hX:CsAt w X l h)(hl:l=n/2+1)(hn:n=2*m)(m1:1<=m)(m2:m<=8192)(hg:guardE (prV (wholeC h n) m n) m=0):
  Calls Tryz.prog 90 #[plV kind m r A q.len c,.slice X l cx,.int .i64 n] w λz w'=>∃v L,z=.returned v/\OwnL w' w.heap.size v L/\L.length=n/\PrL (overF ringR (F 1 (prV (wholeC h n) m n)) m) L m/\Below w.heap.size w w':=by
 have MO:=Mem.plain_ok
 obtain⟨Z,hZZ⟩:∃Z,overF ringR (F 1 (prV (wholeC h n) m n)) m=Z:=⟨_,rfl⟩
 rw[hZZ]
 obtain⟨W,hW⟩:∃W,W=w.alloc (.cells #[.int .i64 kind,.int .i64 m,.int .i64 r,.slice A q.len c] 27):=⟨_,rfl⟩
 have hbb:Below w.heap.size w W:=by rw[hW];exact(Below.refl _ w).alloc (Nat.le_refl _) _
 obtain⟨p0,p1,p2,p3⟩:=PlBox.new w kind m r A q.len c 27
 rw[<-hW] at p0 p1 p2 p3
 obtain⟨bP,hbP⟩:∃bP,bP=w.heap.size:=⟨_,rfl⟩
 rw[<-hbP] at p0 p1 p2 p3
 have HPB:=aZ (And.intro p0 (And.intro p1 (And.intro p2 p3)))
 have HB:=aZ hbb
 have HK:=aZ (hk.below hbb)
 have HWH:=aZ (whole_any X n l cx h W (hX.keep hbb) hl (by omega) (by omega))
 obtain⟨H,hH⟩:∃H,wholeC h n=H:=⟨_,rfl⟩
 rw[hH] at HWH hg hZZ
 have HZZ:=aZ hZZ
 have HP:=aZ P
 have HC:=aZ C
 have HG:=aZ hg
 have HN:=aZ (And.intro hn (And.intro m1 m2))
 have hmk:=mk_C m (by omega)
 have hbs:=bs2_float
 have hq0:wrap64 ((n:Int)/2)=(m:Int):=by rw[show(n:Int)/2=(m:Int) by omega];exact wrap64_nat m (by omega)
 have hq1:IntKind.i64.wrap ((n:Int)/2)=(m:Int):=by rw[show(n:Int)/2=(m:Int) by omega];exact wrapI_nat m (by omega)
 clear hk hX P C hg p0 p1 p2 p3 hbb hn m1 m2 hZZ hH hl
 go_enter Tryz.func90,Tryz.ntmps90
 go_upto_region 1 with(fail)
 rw[<-hW,<-hbP]
 clear hW hbP
 go_wp2_with fail
 refine HWH.out.mono ?_
 rintro z w1 ⟨gF,rfl,-,-,hF,hb1⟩
 have HF:=aZ hF
 have HB1:=aZ hb1
 clear hF hb1 HWH
 go_wp2
 clear hmk hq0 hq1
 go_loopw [27] (λvi wr=>∃k:Nat,k<=m/\vi=.int .i64 k/\Hid (OwnC Mem.plain wr w1.heap.size m (upToC k (prV H m n)))/\Hid (Mem.plain.On w1 wr)) (λvi _=>m-(intOf vi).toNat)
 case atStart=>
  obtain⟨h1,h2⟩:=OwnC.make MO (MO.on_refl (w:=w1) trivial) m 52
  exact⟨0,by omega,rfl,aZ h1.empty,aZ h2⟩
 case round=>
  obtain⟨j,hj,rfl,HOWN,hb⟩:=hrel
  by_cases hlt:j<m
  ·have hji:(j:Int)<m:=by omega
   have hj9:j+1<=32768:=by have:=HN.out;omega
   obtain⟨b,hbe⟩:∃b,j+m=b:=⟨_,rfl⟩
   have hjn:j<n:=by have:=HN.out;omega
   have hbn:b<n:=by have:=HN.out;omega
   have hn9:n<=16384:=by have:=HN.out;omega
   have hjni:(j:Int)<n:=by omega
   have hbni:(b:Int)<n:=by omega
   have hb0:wrap64 ((j:Int)+m)=(b:Int):=by rw[show(j:Int)+m=(b:Int) by omega];exact wrap64_nat b (by omega)
   have hb1:IntKind.i64.wrap ((j:Int)+m)=(b:Int):=by rw[show(j:Int)+m=(b:Int) by omega];exact wrapI_nat b (by omega)
   obtain⟨jm,hjm⟩:∃jm:Int,-(j:Int)=jm:=⟨_,rfl⟩
   have hjm0:wrap64 (-(j:Int))=jm:=by rw[hjm];unfold wrap64;omega
   have hjm1:IntKind.i64.wrap (-(j:Int))=jm:=by rw[hjm,IntKind.wrap_i64];omega
   have HJM:=aZ hjm
   have HJB:Hid (-65536<=jm/\jm<=65536/\(1:Int)<=n/\(n:Int)<=65536):=aZ (by have:=HN.out;omega)
   obtain⟨za,z1,z2,-,-,hza⟩:=(HF.out.keep hb.out.fr) j hjn
   obtain⟨zb,z3,z4,-,-,hzb⟩:=(HF.out.keep hb.out.fr) b hbn
   have HVZ:Hid (nC za=H j/\nC zb=H (j+m)):=aZ ⟨hza,by rw[hzb,hbe]⟩
   have HC7:Hid ((wr.cell? ⟨gF,j*2,none⟩=some (.float .f64 za.1))/\(wr.cell? ⟨gF,j*2+1,none⟩=some (.float .f64 za.2))/\(wr.cell? ⟨gF,b*2,none⟩=some (.float .f64 zb.1))/\(wr.cell? ⟨gF,b*2+1,none⟩=some (.float .f64 zb.2))):=aZ ⟨z1,z2,z3,z4⟩
   clear hbe hjn hbn hn9 z1 z2 z3 z4 hza hzb hjm
   have HS7:Hid (∀w',Hid (Mem.plain.On wr w')->(w'.cell? ⟨gF,j*2,none⟩=some (.float .f64 za.1)/\w'.cell? ⟨gF,j*2+1,none⟩=some (.float .f64 za.2)/\w'.cell? ⟨gF,b*2,none⟩=some (.float .f64 zb.1)/\w'.cell? ⟨gF,b*2+1,none⟩=some (.float .f64 zb.2)/\Hid (Mem.plain.On wr w'))):=aZ (λw' h=>⟨on_cell MO trivial h HC7.out.1,on_cell MO trivial h HC7.out.2.1,on_cell MO trivial h HC7.out.2.2.1,on_cell MO trivial h HC7.out.2.2.2,h⟩)
   go_upto_region 7 with(fail)
   refine wp_region_S (λw'=>(w'.cell? ⟨gF,j*2,none⟩=some (.float .f64 za.1)/\w'.cell? ⟨gF,j*2+1,none⟩=some (.float .f64 za.2)/\w'.cell? ⟨gF,b*2,none⟩=some (.float .f64 zb.1)/\w'.cell? ⟨gF,b*2+1,none⟩=some (.float .f64 zb.2)/\Hid (Mem.plain.On wr w'))) 13 (by kernel_rfl) ?_
   have hS0:=HS7.out _ (aZ ((MO.on_refl trivial).drew MO))
   refine Takes.intro [0,1,2,3,4,5,6,7,8,9] ?_
   repeat(refine Takes.go (v:=?_) hS0 ?_;try simp only[nrm,Act.put])
   refine Takes.nil ?_
   have hzC:=zero_C
   have HOD:Hid (Mem.plain.On wr wr.drew):=aZ ((MO.on_refl trivial).drew MO)
   have HOE:Hid (Mem.plain.On wr (wr.drew.alloc (.cells #[.float .f64 0,.float .f64 0] 52))):=aZ (HOD.out.below MO ((Below.refl _ _).alloc (Nat.le_refl _) _))
   have HOF:Hid (Mem.plain.On wr ((wr.drew.alloc (.cells #[.float .f64 0,.float .f64 0] 52)).alloc (.cells #[.float .f64 0,.float .f64 0] 52))):=aZ (HOE.out.below MO ((Below.refl _ _).alloc (Nat.le_refl _) _))
   have hsz:(wr.alloc (.cells #[.float .f64 0,.float .f64 0] 52)).heap.size=wr.heap.size+1:=by simp
   have hF2:=FlC.one MO ((MO.on_refl (w:=wr) trivial).below MO ((Below.refl _ wr).alloc (Nat.le_refl _) (.cells #[.float .f64 0,.float .f64 0] 52))) (FlC.one MO (MO.on_refl (w:=wr) trivial) (FlC.start wr.heap.size undef undef wr) 52).swap 52
   rw[hsz] at hF2
   have hF3:=FlC.keep MO hF2 ((MO.on_refl trivial).drew MO) trivial
   clear hF2 hsz
   refine wpAnyS_two (i:=10) (j:=11) (di:=11) (dj:=12) (λv1 v2 w2=>FlC Mem.plain wr.heap.size true v1 true v2 w2) (by kernel_rfl) rfl rfl (by decide) (by decide) rfl rfl (λK hK=>?_) (λK hK=>?_) ?_
   ·try simp only[nrm,Act.put] at hK
    go_simp
    refine hK.out _ _ (HS7.out _ HOE) (λK2 hK2=>?_)
    clear hK K
    try simp only[nrm,Act.put] at hK2|-
    go_simp
    exact hK2.out _ _ (HS7.out _ HOF) hF3.swap
   ·try simp only[nrm,Act.put] at hK
    go_simp
    refine hK.out _ _ (HS7.out _ HOE) (λK2 hK2=>?_)
    clear hK K
    try simp only[nrm,Act.put] at hK2|-
    go_simp
    exact hK2.out _ _ (HS7.out _ HOF) hF3
   intro v1 v2 wa hSa hFa
   clear hS0 HOD HOE HOF hzC hF3
   obtain⟨p1,p2,rfl,rfl,hpp,lp1,lp2,bp1,bp2⟩:=hFa.done
   try simp only[nrm,Act.put]
   obtain⟨k0,k1,k2,k3,k4,k5⟩:=box2 MO hSa.2.2.2.2.out trivial lp1 lp2 hpp bp1 bp2 za zb
   have k6:=(bp1.set MO hSa.2.2.2.2.out lp1 za).2
   have hS3:=HS7.out _ (aZ k6)
   unfold setB at k0 k1 k2 k3 k4 k5 k6 hS3
   obtain⟨i0,i1,i2,i3,-,-⟩:=bp1
   obtain⟨j0,j1,j2,j3,-,-⟩:=k0
   refine wpAnyS_1 12 (λK hK=>?_)
   go_simp
   refine hK.out _ _ (λ_=>hS3) ?_
   clear hK K hS3 k6
   try simp only[nrm,Act.put]
   refine wpAnyS_fin 1 13 ?_
   simp only[nrd]
   go_upto_region 8 with(fail)
   obtain⟨wA,hW⟩:∃wA,wA=(((wa.setCell ⟨p1,0,none⟩ (.float .f64 za.1)).setCell ⟨p1,1,none⟩ (.float .f64 za.2)).setCell ⟨p2,0,none⟩ (.float .f64 zb.1)).setCell ⟨p2,1,none⟩ (.float .f64 zb.2):=⟨_,rfl⟩
   rw[<-hW] at k1 k2 k3 k4 k5|-
   obtain⟨gA,hp1⟩:∃gA,gA=p1:=⟨_,rfl⟩
   obtain⟨gB,hp2⟩:∃gB,gB=p2:=⟨_,rfl⟩
   rw[<-hp1] at k1 lp1|-
   rw[<-hp2] at k2 lp2|-
   have HU_wA:=aZ k1
   have HV_wA:=aZ k2
   have HD_wA:=aZ k3
   have HG_wA:=aZ (k5 _ _ _ HOWN.out)
   clear i0 i1 i2 i3 j0 j1 j2 j3 k1 k2 k3 k4 k5 hW hp1 hp2 lp1 lp2 hpp hSa hFa
   clear HS7 HC7
   have HO_wA:=aZ (hb.out.trans MO HD_wA.out)
   have HS8:Hid (∀w',Hid (Mem.plain.On wA w')->(w'.cell? ⟨gA,0,none⟩=some (.float .f64 za.1)/\w'.cell? ⟨gA,1,none⟩=some (.float .f64 za.2)/\w'.cell? ⟨gB,0,none⟩=some (.float .f64 zb.1)/\w'.cell? ⟨gB,1,none⟩=some (.float .f64 zb.2)/\Hid (Mem.plain.On wA w'))):=aZ (λw' h=>⟨on_cell MO trivial h HU_wA.out.c0,on_cell MO trivial h HU_wA.out.c1,on_cell MO trivial h HV_wA.out.c0,on_cell MO trivial h HV_wA.out.c1,h⟩)
   go_upto_region 8 with(fail)
   refine wp_region_S (λw'=>(w'.cell? ⟨gA,0,none⟩=some (.float .f64 za.1)/\w'.cell? ⟨gA,1,none⟩=some (.float .f64 za.2)/\w'.cell? ⟨gB,0,none⟩=some (.float .f64 zb.1)/\w'.cell? ⟨gB,1,none⟩=some (.float .f64 zb.2)/\Hid (Mem.plain.On wA w'))) 15 (by kernel_rfl) ?_
   have hS0:=HS8.out _ (aZ ((MO.on_refl trivial).drew MO))
   refine Takes.intro [0,1,4,5,8,9,10] ?_
   repeat(refine Takes.go (v:=?_) hS0 ?_;try simp only[nrm,Act.put])
   refine Takes.nil ?_
   refine wpFl_begin 13 14 13 14 (FlC Mem.plain wA.heap.size) (by simp) (by simp) hS0 (λx1 x2=>FlC.start _ _ _ _) ?_
   clear hS0
   refine wpFl_one 2 42 (floatsC MO (D:=wA) (λw h=>h.2.2.2.2.out) (λw h=>HS8.out w (aZ h)) (by decide) (by decide) ⟨_,rfl,rfl,rfl,rfl⟩ ⟨_,rfl,rfl,rfl,rfl⟩) (by kernel_rfl) rfl rfl rfl (by decide) (by decide) (by decide) (by decide) ?_
   intro g1 x1 g2 x2 wa hSa hFa K hK
   try simp only[ptA,List.getElem_toArray,List.getElem_cons_zero,List.getElem_cons_succ,Act.put,List.setIfInBounds_toArray,List.set_cons_zero,List.set_cons_succ] at hK|-
   go_simp
   refine(addC_any za zb _).mono ?_
   rintro z wz ⟨⟨q1,rfl,hq1⟩,hb2⟩
   have Hq1:=aZ hq1
   clear hq1
   have hb3:Mem.plain.On wa wz:=⟨trivial,hb2⟩
   refine hK.out _ _ (HS8.out _ (aZ (hSa.2.2.2.2.out.trans MO hb3))) (FlC.keep MO hFa hb3 trivial) ?_
   clear hK K hb2 hb3 hFa hSa
   try simp only[ptA,List.getElem_toArray,List.getElem_cons_zero,List.getElem_cons_succ,Act.put,List.setIfInBounds_toArray,List.set_cons_zero,List.set_cons_succ]
   refine wpFl_one 3 43 (floatsC MO (D:=wA) (λw h=>h.2.2.2.2.out) (λw h=>HS8.out w (aZ h)) (by decide) (by decide) ⟨_,rfl,rfl,rfl,rfl⟩ ⟨_,rfl,rfl,rfl,rfl⟩) (by kernel_rfl) rfl rfl rfl (by decide) (by decide) (by decide) (by decide) ?_
   intro g1 x1 g2 x2 wa hSa hFa K hK
   try simp only[ptA,List.getElem_toArray,List.getElem_cons_zero,List.getElem_cons_succ,Act.put,List.setIfInBounds_toArray,List.set_cons_zero,List.set_cons_succ] at hK|-
   go_simp
   refine(half_any q1 _).mono ?_
   rintro z wz ⟨⟨q2,rfl,hq2⟩,hb2⟩
   have Hq2:=aZ hq2
   clear hq2
   have hb3:Mem.plain.On wa wz:=⟨trivial,hb2⟩
   refine hK.out _ _ (HS8.out _ (aZ (hSa.2.2.2.2.out.trans MO hb3))) (FlC.keep MO hFa hb3 trivial) ?_
   clear hK K hb2 hb3 hFa hSa
   try simp only[ptA,List.getElem_toArray,List.getElem_cons_zero,List.getElem_cons_succ,Act.put,List.setIfInBounds_toArray,List.set_cons_zero,List.set_cons_succ]
   refine wpFl_one 6 46 (floatsC MO (D:=wA) (λw h=>h.2.2.2.2.out) (λw h=>HS8.out w (aZ h)) (by decide) (by decide) ⟨_,rfl,rfl,rfl,rfl⟩ ⟨_,rfl,rfl,rfl,rfl⟩) (by kernel_rfl) rfl rfl rfl (by decide) (by decide) (by decide) (by decide) ?_
   intro g1 x1 g2 x2 wa hSa hFa K hK
   try simp only[ptA,List.getElem_toArray,List.getElem_cons_zero,List.getElem_cons_succ,Act.put,List.setIfInBounds_toArray,List.set_cons_zero,List.set_cons_succ] at hK|-
   go_simp
   refine(subC_any za zb _).mono ?_
   rintro z wz ⟨⟨q3,rfl,hq3⟩,hb2⟩
   have Hq3:=aZ hq3
   clear hq3
   have hb3:Mem.plain.On wa wz:=⟨trivial,hb2⟩
   refine hK.out _ _ (HS8.out _ (aZ (hSa.2.2.2.2.out.trans MO hb3))) (FlC.keep MO hFa hb3 trivial) ?_
   clear hK K hb2 hb3 hFa hSa
   try simp only[ptA,List.getElem_toArray,List.getElem_cons_zero,List.getElem_cons_succ,Act.put,List.setIfInBounds_toArray,List.set_cons_zero,List.set_cons_succ]
   refine wpFl_one 7 47 (floatsC MO (D:=wA) (λw h=>h.2.2.2.2.out) (λw h=>HS8.out w (aZ h)) (by decide) (by decide) ⟨_,rfl,rfl,rfl,rfl⟩ ⟨_,rfl,rfl,rfl,rfl⟩) (by kernel_rfl) rfl rfl rfl (by decide) (by decide) (by decide) (by decide) ?_
   intro g1 x1 g2 x2 wa hSa hFa K hK
   try simp only[ptA,List.getElem_toArray,List.getElem_cons_zero,List.getElem_cons_succ,Act.put,List.setIfInBounds_toArray,List.set_cons_zero,List.set_cons_succ] at hK|-
   go_simp
   refine(half_any q3 _).mono ?_
   rintro z wz ⟨⟨q4,rfl,hq4⟩,hb2⟩
   have Hq4:=aZ hq4
   clear hq4
   have hb3:Mem.plain.On wa wz:=⟨trivial,hb2⟩
   refine hK.out _ _ (HS8.out _ (aZ (hSa.2.2.2.2.out.trans MO hb3))) (FlC.keep MO hFa hb3 trivial) ?_
   clear hK K hb2 hb3 hFa hSa
   try simp only[ptA,List.getElem_toArray,List.getElem_cons_zero,List.getElem_cons_succ,Act.put,List.setIfInBounds_toArray,List.set_cons_zero,List.set_cons_succ]
   refine wpFl_one 11 51 (floatsC MO (D:=wA) (λw h=>h.2.2.2.2.out) (λw h=>HS8.out w (aZ h)) (by decide) (by decide) ⟨_,rfl,rfl,rfl,rfl⟩ ⟨_,rfl,rfl,rfl,rfl⟩) (by kernel_rfl) rfl rfl rfl (by decide) (by decide) (by decide) (by decide) ?_
   intro g1 x1 g2 x2 wa hSa hFa K hK
   try simp only[ptA,List.getElem_toArray,List.getElem_cons_zero,List.getElem_cons_succ,Act.put,List.setIfInBounds_toArray,List.set_cons_zero,List.set_cons_succ] at hK|-
   go_simp
   refine(root_any jm n _ HJB.out.1 HJB.out.2.1 HJB.out.2.2.1 HJB.out.2.2.2).mono ?_
   rintro z wz ⟨⟨q5,rfl,hq5⟩,hb2⟩
   have Hq5:=aZ hq5
   clear hq5
   have hb3:Mem.plain.On wa wz:=⟨trivial,hb2⟩
   refine hK.out _ _ (HS8.out _ (aZ (hSa.2.2.2.2.out.trans MO hb3))) (FlC.keep MO hFa hb3 trivial) ?_
   clear hK K hb2 hb3 hFa hSa
   try simp only[ptA,List.getElem_toArray,List.getElem_cons_zero,List.getElem_cons_succ,Act.put,List.setIfInBounds_toArray,List.set_cons_zero,List.set_cons_succ]
   refine wpFl_one 12 52 (floatsC MO (D:=wA) (λw h=>h.2.2.2.2.out) (λw h=>HS8.out w (aZ h)) (by decide) (by decide) ⟨_,rfl,rfl,rfl,rfl⟩ ⟨_,rfl,rfl,rfl,rfl⟩) (by kernel_rfl) rfl rfl rfl (by decide) (by decide) (by decide) (by decide) ?_
   intro g1 x1 g2 x2 wa hSa hFa K hK
   try simp only[ptA,List.getElem_toArray,List.getElem_cons_zero,List.getElem_cons_succ,Act.put,List.setIfInBounds_toArray,List.set_cons_zero,List.set_cons_succ] at hK|-
   go_simp
   refine(mulC_any q4 q5 _).mono ?_
   rintro z wz ⟨⟨q6,rfl,hq6⟩,hb2⟩
   have Hq6:=aZ hq6
   clear hq6
   have hb3:Mem.plain.On wa wz:=⟨trivial,hb2⟩
   refine hK.out _ _ (HS8.out _ (aZ (hSa.2.2.2.2.out.trans MO hb3))) (FlC.keep MO hFa hb3 trivial) ?_
   clear hK K hb2 hb3 hFa hSa
   try simp only[ptA,List.getElem_toArray,List.getElem_cons_zero,List.getElem_cons_succ,Act.put,List.setIfInBounds_toArray,List.set_cons_zero,List.set_cons_succ]
   refine wpFl_end 2 15 (floatsC MO (D:=wA) (λw h=>h.2.2.2.2.out) (λw h=>HS8.out w (aZ h)) (by decide) (by decide) ⟨_,rfl,rfl,rfl,rfl⟩ ⟨_,rfl,rfl,rfl,rfl⟩) (by kernel_rfl) (by decide) rfl ?_
   intro x1 x2 wa hSa hFa
   obtain⟨p1,p2,rfl,rfl,hpp,lp1,lp2,bp1,bp2⟩:=hFa.done
   simp only[nrd]
   try simp only[ptA,List.getElem_toArray,List.getElem_cons_zero,List.getElem_cons_succ,Act.put,List.setIfInBounds_toArray,List.set_cons_zero,List.set_cons_succ]
   obtain⟨k0,k1,k2,k3,k4,k5⟩:=box2 MO hSa.2.2.2.2.out trivial lp1 lp2 hpp bp1 bp2 q2 q6
   unfold setB at k0 k1 k2 k3 k4 k5
   obtain⟨i0,i1,i2,i3,-,-⟩:=bp1
   obtain⟨j0,j1,j2,j3,-,-⟩:=k0
   go_upto_region 9 with(fail)
   obtain⟨wB,hW⟩:∃wB,wB=(((wa.setCell ⟨p1,0,none⟩ (.float .f64 q2.1)).setCell ⟨p1,1,none⟩ (.float .f64 q2.2)).setCell ⟨p2,0,none⟩ (.float .f64 q6.1)).setCell ⟨p2,1,none⟩ (.float .f64 q6.2):=⟨_,rfl⟩
   rw[<-hW] at k1 k2 k3 k4 k5|-
   obtain⟨gE,hp1⟩:∃gE,gE=p1:=⟨_,rfl⟩
   obtain⟨gO,hp2⟩:∃gO,gO=p2:=⟨_,rfl⟩
   rw[<-hp1] at k1 lp1|-
   rw[<-hp2] at k2 lp2|-
   have HU_wB:=aZ k1
   have HV_wB:=aZ k2
   have HD_wB:=aZ k3
   have HG_wB:=aZ (k5 _ _ _ HG_wA.out)
   clear i0 i1 i2 i3 j0 j1 j2 j3 k1 k2 k3 k4 k5 hW hp1 hp2 lp1 lp2 hpp hSa hFa
   have HO_wB:=aZ (HO_wA.out.trans MO HD_wB.out)
   clear HS8 HD_wA HD_wB HU_wA HV_wA HG_wA HOWN hb
   have HS9:Hid (∀w',Hid (Mem.plain.On wB w')->w'.cell? ⟨gE,0,none⟩=some (.float .f64 q2.1)/\w'.cell? ⟨gE,1,none⟩=some (.float .f64 q2.2)/\w'.cell? ⟨gO,0,none⟩=some (.float .f64 q6.1)/\w'.cell? ⟨gO,1,none⟩=some (.float .f64 q6.2)/\Hid (Mem.plain.On wB w')):=aZ (λw' h=>⟨on_cell MO trivial h HU_wB.out.c0,on_cell MO trivial h HU_wB.out.c1,on_cell MO trivial h HV_wB.out.c0,on_cell MO trivial h HV_wB.out.c1,h⟩)
   go_upto_region 9 with(fail)
   refine wp_region_S (λw'=>w'.cell? ⟨gE,0,none⟩=some (.float .f64 q2.1)/\w'.cell? ⟨gE,1,none⟩=some (.float .f64 q2.2)/\w'.cell? ⟨gO,0,none⟩=some (.float .f64 q6.1)/\w'.cell? ⟨gO,1,none⟩=some (.float .f64 q6.2)/\Hid (Mem.plain.On wB w')) 6 (by kernel_rfl) ?_
   have hS0:=HS9.out _ (aZ ((MO.on_refl trivial).drew MO))
   refine Takes.intro [0,1,2,3] ?_
   repeat(refine Takes.go (v:=?_) hS0 ?_;try simp only[nrm,Act.put])
   refine Takes.nil ?_
   refine wpAnyS_1 4 (λK hK=>?_)
   go_simp
   refine(Turn1_any q6 _).mono ?_
   rintro z wz1 ⟨hz,hb2⟩
   obtain⟨q7,hq7⟩:∃q7:Rx,(negF q6.2,q6.1)=q7:=⟨_,rfl⟩
   rw[hq7] at hz
   subst hz
   have Hq7:Hid (nC q7=cturn1 (nC q6)):=aZ (by rw[<-hq7];exact nC_turn1 q6)
   have hS1:=HS9.out _ (aZ (hS0.2.2.2.2.out.below MO hb2))
   clear hb2 hq7
   refine hK.out _ _ (λ_=>hS1) ?_
   clear hK K
   try simp only[nrm,Act.put]
   refine wpAnyS_1 5 (λK hK=>?_)
   go_simp
   refine(addC_any q2 q7 _).mono ?_
   rintro z wz2 ⟨⟨q8,rfl,hq8⟩,hb2⟩
   have Hq8:=aZ hq8
   have hS2:=HS9.out _ (aZ (hS1.2.2.2.2.out.below MO hb2))
   clear hb2 hq8
   refine hK.out _ _ (λ_=>hS2) ?_
   clear hK K
   try simp only[nrm,Act.put]
   refine wpAnyS_fin 2 6 ?_
   simp only[nrd]
   have hr2:=HG_wB.out.keep MO hS2.2.2.2.2.out trivial
   obtain⟨u0,r1,r2,r3,r4,-⟩:=hr2.row j hlt
   have HN2:=aZ (hr2.set MO (HO_wB.out.trans MO hS2.2.2.2.2.out) (Nat.le_refl _) hlt q8)
   have HQ8:Hid (nC q8=prV H m n j):=aZ (by rw[Hq8.out,Hq7.out,Hq6.out,Hq5.out,Hq4.out,Hq3.out,Hq2.out,Hq1.out,HVZ.out.1,HVZ.out.2,<-HJM.out];rfl)
   clear hr2 hS0 hS1 hS2 HG_wB HO_wB HS9 HU_wB HV_wB
   go_wp2
   exact⟨⟨j+1,by omega,by go_num,aZ (HN2.out.1.nextC HQ8.out),aZ HN2.out.2⟩,by simp[intOf];omega⟩
  ·obtain rfl:j=m:=by omega
   have HZ0:=aZ HOWN.out.full
   have HOW:Hid (Mem.plain.On W wr):=aZ (((MO.on_refl (w:=W) trivial).below MO HB1.out).trans MO hb.out)
   have p0:=on_cell MO trivial HOW HPB.out.1
   have p1:=on_cell MO trivial HOW HPB.out.2.1
   have p2:=on_cell MO trivial HOW HPB.out.2.2.1
   have p3:=on_cell MO trivial HOW HPB.out.2.2.2
   have HCL:=aZ (Inverse_ok kind r q j F HP.out HC.out A c (some ⟨w1.heap.size,0,none⟩) j (prV H j n) (-1) wr (HK.out.below HOW.out.fr) HZ0.out.cs (by have:=HN.out;omega) (by have:=HN.out;omega) (.inr rfl) HG.out)
   have HBw:Hid (Below w.heap.size w wr):=aZ (HB.out.trans (HOW.out.fr.mono HB.out.size))
   clear HOWN hb hlt HZ0 HK HPB HOW HB1 HF
   go_wp2_with fail
   refine HCL.out.mono ?_
   rintro z w2 ⟨gZ,rfl,-,hgZ,hZ,hb1⟩
   rw[show-(-1:Int)=1 by decide,HZZ.out] at hZ
   have HZ:=aZ hZ
   have HB2:Hid (Below w.heap.size w w2):=aZ (HBw.out.trans (hb1.mono HBw.out.size))
   clear hb1 hZ p0 p1 p2 p3 HCL HBw hgZ HP HC HG HZZ
   go_wp2
   go_loopw [15,69] (λlv vi wr=>∃(k:Nat) (L:List Wd),k<=j/\vi=.int .i64 k/\Hid (L.length=2*k)/\Hid (OwnL wr w2.heap.size lv L)/\Hid (PrL Z L k)/\Hid (Below w2.heap.size w2 wr)) (λ_ vi _=>j-(intOf vi).toNat)
   case atStart=>exact⟨0,[],by omega,rfl,aZ rfl,aZ (OwnL.nil _ _),aZ (λk hk=>by omega),aZ (Below.refl _ _)⟩
   case round=>
    rename World=>wr
    obtain⟨k,L,hk,rfl,hL,ho,hp,hb⟩:=hrel
    by_cases hlt:k<j
    ·have hki:(k:Int)<j:=by omega
     have hk9:k+1<=32768:=by have:=HN.out;omega
     obtain⟨u,z1,z2,-,-,hu⟩:=(HZ.out.keep hb.out) k hlt
     have HU:=aZ hu
     clear hu
     go_upto_region 16 with(fail)
     obtain⟨W1,hW1,hb1,c0,c1,-⟩:=boxC wr u 52
     rw[<-hW1]
     obtain⟨wb,hwb⟩:∃wb,wb=W1.alloc (.cells #[.float .f64 (u.1:Nat),.float .f64 (u.2:Nat)] 33):=⟨_,rfl⟩
     have hb2:Below W1.heap.size W1 wb:=by rw[hwb];exact(Below.refl _ W1).alloc (Nat.le_refl _) _
     have hn0:wb.cell? ⟨W1.heap.size,0,none⟩=some (.float .f64 (u.1:Nat)):=by rw[hwb,World.cell?_alloc_new];rfl
     have hn1:wb.cell? ⟨W1.heap.size,1,none⟩=some (.float .f64 (u.2:Nat)):=by rw[hwb,World.cell?_alloc_new];rfl
     have hb3:=hb1.trans (hb2.mono hb1.size)
     have HO1:Hid (wb.ownsRow w2.heap.size 33 1 u15 (2*k) (fltV L)):=aZ (by have h1:=owns_below ho.out hb3;unfold OwnL at h1;rw[hL.out] at h1;exact h1)
     have HBA:Hid (Below w2.heap.size w2 wb):=aZ (hb.out.trans (hb3.mono hb.out.size))
     have hbs2:w2.heap.size<=wb.heap.size:=HBA.out.size
     have hj40:2*k+2<=1099511627776:=by omega
     have HWB:=aZ hwb
     clear hW1 hb1 hb2 hb3 hwb z1 z2
     go_wp2_with (at_builtin;go_loud (rw[<-HWB.out];refine Go.Proofs.YtmgfaeineklccaaGreat.wpList_app2 rfl _ _ 53 33 rfl 1 8 (.float .f64 0) Tryz.underlying53 info_float rfl (by omega) (by omega) w2.heap.size u15 (2*k) (fltV L) rfl HO1.out _ _ [.float .f64 (u.1:Nat),.float .f64 (u.2:Nat)] rfl rfl (λi x hi=>by rcases i with _|_|i<;>simp at hi<;>subst hi;exact hn0;exact hn1) (λx hx=>by simp at hx;rcases hx with rfl|rfl<;>rfl) hj40 hbs2 (λga cap1 w5 hO2 hG2 hL2=>?_)))
     have e1:(L++[u.1,u.2]).length=2*(k+1):=by rw[List.length_append,hL.out];rfl
     have HR1:Hid (OwnL w5 w2.heap.size (.slice (some ⟨ga,0,none⟩) (2*k+2) cap1) (L++[u.1,u.2])):=aZ (by unfold OwnL;rw[e1,show 2*(k+1)=2*k+2 by omega,show fltV (L++[u.1,u.2])=fltV L++[.float .f64 (u.1:Nat),.float .f64 (u.2:Nat)] by simp[fltV]];exact hO2.out)
     have HR2:=aZ (hp.out.next hL.out u HU.out)
     have HR3:Hid (Below w2.heap.size w2 w5):=aZ (HBA.out.grown hG2.out HBA.out.size (λk e=>(World.ownsRow.lt HO1.out k e).1))
     have HR0:=aZ e1
     clear hO2 hG2 hL2 HO1 hn0 hn1 c0 c1 hb ho hp e1
     go_wp2
     exact⟨⟨k+1,_,by omega,by go_num,HR0,HR1,HR2,HR3⟩,by simp[intOf];omega⟩
    ·obtain rfl:k=j:=by omega
     have HBB:Hid (Below w.heap.size w wr):=aZ (HB2.out.trans (hb.out.mono HB2.out.size))
     obtain⟨A1,k1,rfl,-⟩:=ho.out.fs
     go_wp2
     go_ret
     exact⟨_,L,rfl,owns_mono ho.out HB2.out.size,by rw[hL.out,HN.out.1],hp.out,HBB.out⟩
theorem ent_great(args:Array Value)(w:World):(callFunc 82 args).run Tryz.prog w=.ok (.enter 82 args) w:=enters_of Tryz.func82 (by kernel_rfl) rfl args w
theorem ent_great2(args:Array Value)(w:World):(callFunc 89 args).run Tryz.prog w=.ok (.enter 89 args) w:=enters_of Tryz.func89 (by kernel_rfl) rfl args w
theorem great_nz(u:Fin 18446744073709551616)(w:World):Calls Tryz.prog 82 #[.float .f64 (u:Nat)] w λz w'=>z=.returned (.bool (!fitsB W890 (nz u)))/\Below w.heap.size w w':=by
 rw[fits_nz]
 refine(great_any u w u.isLt).mono ?_
 rintro z w' ⟨rfl,rfl⟩
 exact⟨rfl,Below.refl _ _⟩
def fwF(Z:Nat->Cx)(m n:Nat):Nat->Cx:=updT (evF Z m n) 0 ((evF Z m n 0).1,0)
theorem Forward_even(kind r:Int)(q:Fo)(m:Nat)(F:Tr Cx)(P:PlanE kind r q m F)(C:ChkC kind m r q m 0)(A:Option Addr)(c:Nat)(X:Option Addr)(n cx:Nat)(x:Nat->Nat)(w:World)(hk:Kids w A 0 q)(hX:FsAt w X n x)(hn:n=2*m)(m1:1<=m)(m2:m<=8192)(hg:guardE (evC x) m=0)(hf:idxI (onF λy=>!fitsB W890 y) (reF x) n=-1):
  Calls Tryz.prog 29 #[plV kind m r A q.len c,.slice X n cx] w λz w'=>∃g,z=.returned (.tuple #[.slice (some ⟨g,0,none⟩) (m+1:Nat) (m+1:Nat),.int .i64 0])/\w.heap.size<=g/\g<w'.heap.size/\RowC w' g (m+1) (fwF (F (-1) (evC x)) m n)/\Below w.heap.size w w':=by
 obtain⟨W,hW⟩:∃W,W=w.alloc (.cells #[.int .i64 kind,.int .i64 m,.int .i64 r,.slice A q.len c] 27):=⟨_,rfl⟩
 have hbb:Below w.heap.size w W:=by rw[hW];exact(Below.refl _ w).alloc (Nat.le_refl _) _
 obtain⟨p0,p1,p2,p3⟩:=PlBox.new w kind m r A q.len c 27
 rw[<-hW] at p0 p1 p2 p3
 obtain⟨bP,hbP⟩:∃bP,bP=w.heap.size:=⟨_,rfl⟩
 rw[<-hbP] at p0 p1 p2 p3
 have hwn:wantsI (n:Int)=(m:Int):=by unfold wantsI;rw[if_neg (by omega),if_pos (by omega)];omega
 have hm:=λw2 (hb:Below W.heap.size W w2)=>hmay_any kind m r q n 0 (by rw[hwn];exact C) A c w2 ((hk.below hbb).below hb)
 rw[show hmayE (n:Int) 0=0 by unfold hmayE;rw[if_neg (by omega)]] at hm
 have hc:=λw2 (hb:Below W.heap.size W w2)=>ContainsF_any 82 (λy=>!fitsB W890 y) ent_great great_nz X n cx x w2 ((hX.keep hbb).keep hb) (by omega)
 rw[hf] at hc
 have he:=λw2 (hb:Below W.heap.size W w2)=>even_any kind r q m F P C A c X n cx x w2 ((hk.below hbb).below hb) ((hX.keep hbb).keep hb) hn m1 m2 hg
 obtain⟨E,hE⟩:∃E,evF (F (-1) (evC x)) m n=E:=⟨_,rfl⟩
 unfold fwF
 rw[hE] at he|-
 have HM:=aZ hm
 have HC:=aZ hc
 have HE:=aZ he
 have HB:=aZ hbb
 obtain⟨m3,hm3⟩:∃m3:Nat,m+1=m3:=⟨_,rfl⟩
 rw[hm3] at HE|-
 have h3:0<m3:=by omega
 have h3i:(0:Int)<m3:=by omega
 have hpi:(n:Int)%2=0:=by omega
 have hpt:(n:Int).tmod 2=0:=by rw[Int.tmod_eq_emod_of_nonneg (by omega)];omega
 have h63:n<9223372036854775808:=by omega
 clear hm hc he hbb hwn P C hk hX hE hg hf m1 m2 hn hm3
 go_enter Tryz.func29,Tryz.ntmps29
 go_upto_region 1 with(fail)
 rw[<-hW,<-hbP]
 clear hW hbP
 go_wp2_with fail
 refine(HM.out W (Below.refl _ _)).mono ?_
 rintro z w1 ⟨rfl,hb1⟩
 have HB1:=aZ hb1
 have q0:=keep_cell hb1 p0
 have q1:=keep_cell hb1 p1
 have q2:=keep_cell hb1 p2
 have q3:=keep_cell hb1 p3
 clear hb1 p0 p1 p2 p3 HM
 go_wp2_with fail
 refine(HC.out w1 HB1.out).mono ?_
 rintro z w2 ⟨rfl,hb2⟩
 have HB2:Hid (Below W.heap.size W w2):=aZ (HB1.out.trans (hb2.mono HB1.out.size))
 have p0:=keep_cell hb2 q0
 have p1:=keep_cell hb2 q1
 have p2:=keep_cell hb2 q2
 have p3:=keep_cell hb2 q3
 have hd:decide ((0:Int)<=-1)=false:=by decide
 clear hb2 q0 q1 q2 q3 HC
 go_wp2_with fail
 refine(HE.out w2 HB2.out).mono ?_
 rintro z w3 ⟨g,rfl,hg1,hg2,hr,hb3⟩
 have HG:Hid (w.heap.size<=g/\g<w3.heap.size):=aZ ⟨Nat.le_trans HB.out.size (Nat.le_trans HB2.out.size hg1),hg2⟩
 have HB3:Hid (Below w.heap.size w w3):=aZ (HB.out.trans ((HB2.out.trans (hb3.mono HB2.out.size)).mono HB.out.size))
 obtain⟨u,r1,r2,r3,r4,-⟩:=hr 0 h3
 have hR:=hr.setIm h3 0
 rw[Nat.zero_mul] at r1 r2 r3 r4 hR
 rw[Nat.zero_add] at r2 r4 hR
 have HR:=aZ hR
 have HBB:Hid (Below w.heap.size w (w3.setCell ⟨g,1,none⟩ (.float .f64 ((0:Fin 18446744073709551616):Nat)))):=aZ (HB3.out.setCell (p:=⟨g,_,none⟩) HG.out.1 _)
 clear hg1 hg2 hr hb3 hR p0 p1 p2 p3 HE
 go_wp2
 go_ret2
 exact⟨g,rfl,HG.out.1,by simpa using HG.out.2,HR.out,HBB.out⟩
theorem Backward_even(kind r:Int)(q:Fo)(m:Nat)(F:Tr Cx)(P:PlanE kind r q m F)(C:ChkC kind m r q m 0)(A:Option Addr)(c:Nat)(X:Option Addr)(l n cx:Nat)(h:Nat->Cx)(w:World)(hk:Kids w A 0 q)(hX:CsAt w X l h)(hl:l=n/2+1)(hn:n=2*m)(m1:1<=m)(m2:m<=8192)(hg:guardE (prV (wholeC h n) m n) m=0)(hf:idxI (λy=>!fitsC W890 y) h l=-1):
  Calls Tryz.prog 31 #[plV kind m r A q.len c,.slice X l cx,.int .i64 n] w λz w'=>∃v L,z=.returned (.tuple #[v,.int .i64 0])/\OwnL w' w.heap.size v L/\L.length=n/\PrL (overF ringR (F 1 (prV (wholeC h n) m n)) m) L m/\Below w.heap.size w w':=by
 have hl9:l<9223372036854775808:=by omega
 have hm9:m<9223372036854775808:=by omega
 have hnm:(n:Int)/2=(m:Int):=by omega
 have hml:(m:Int)+1=(l:Int):=by omega
 have hpi:(n:Int)%2=0:=by omega
 have hpt:(n:Int).tmod 2=0:=by rw[Int.tmod_eq_emod_of_nonneg (by omega)];exact hpi
 have hq0:wrap64 ((n:Int)/2)=(m:Int):=by rw[hnm];exact wrap64_nat m hm9
 have hq1:IntKind.i64.wrap ((n:Int)/2)=(m:Int):=by rw[hnm];exact wrapI_nat m hm9
 have hq2:wrap64 ((m:Int)+1)=(l:Int):=by rw[hml];exact wrap64_nat l hl9
 have hq3:IntKind.i64.wrap ((m:Int)+1)=(l:Int):=by rw[hml];exact wrapI_nat l hl9
 have hl40:l<=4398046511104:=by omega
 have hwn:wantsI (n:Int)=(m:Int):=by unfold wantsI;rw[if_neg (by omega),if_pos (by omega)];omega
 have hbad:¬((n:Int)<1\/16384<(n:Int)):=by omega
 obtain⟨W,hW⟩:∃W,W=w.alloc (.cells #[.int .i64 kind,.int .i64 m,.int .i64 r,.slice A q.len c] 27):=⟨_,rfl⟩
 have hbb:Below w.heap.size w W:=by rw[hW];exact(Below.refl _ w).alloc (Nat.le_refl _) _
 obtain⟨p0,p1,p2,p3⟩:=PlBox.new w kind m r A q.len c 27
 rw[<-hW] at p0 p1 p2 p3
 obtain⟨bP,hbP⟩:∃bP,bP=w.heap.size:=⟨_,rfl⟩
 rw[<-hbP] at p0 p1 p2 p3
 have hm:=λw2 (hb:Below W.heap.size W w2)=>hmay_any kind m r q n 0 (by rw[hwn];exact C) A c w2 ((hk.below hbb).below hb)
 rw[show hmayE (n:Int) 0=0 by unfold hmayE;rw[if_neg hbad]] at hm
 have hc:=λw2 (hb:Below W.heap.size W w2)=>ContainsC_any 89 (λy=>!fitsC W890 y) ent_great2 great2_any X l cx h w2 ((hX.keep hbb).keep hb) hl40
 rw[hf] at hc
 have he:=λw2 (hb:Below W.heap.size W w2)=>pairs_any kind r q m F P C A c X l n cx h w2 ((hk.below hbb).below hb) ((hX.keep hbb).keep hb) hl hn m1 m2 hg
 have HM:=aZ hm
 have HC:=aZ hc
 have HE:=aZ he
 have HB:=aZ hbb
 obtain⟨YY,hY⟩:∃YY,overF ringR (F 1 (prV (wholeC h n) m n)) m=YY:=⟨_,rfl⟩
 rw[hY] at HE|-
 clear hm hc he hbb hwn P C hk hX hg hf m1 m2 hn hl hY hl9 hm9 hnm hml hl40 hbad
 go_enter Tryz.func31,Tryz.ntmps31
 go_upto_region 1 with(fail)
 rw[<-hW,<-hbP]
 clear hW hbP
 go_wp2_with fail
 refine(HM.out W (Below.refl _ _)).mono ?_
 rintro z w1 ⟨rfl,hb1⟩
 have HB1:=aZ hb1
 have q0:=keep_cell hb1 p0
 have q1:=keep_cell hb1 p1
 have q2:=keep_cell hb1 p2
 have q3:=keep_cell hb1 p3
 clear hb1 p0 p1 p2 p3 HM
 go_wp2_with fail
 refine(HC.out w1 HB1.out).mono ?_
 rintro z w2 ⟨rfl,hb2⟩
 have HB2:Hid (Below W.heap.size W w2):=aZ (HB1.out.trans (hb2.mono HB1.out.size))
 have p0:=keep_cell hb2 q0
 have p1:=keep_cell hb2 q1
 have p2:=keep_cell hb2 q2
 have p3:=keep_cell hb2 q3
 have hd:decide ((0:Int)<=-1)=false:=by decide
 clear hb2 q0 q1 q2 q3 HC
 go_wp2_with fail
 refine(HE.out w2 HB2.out).mono ?_
 rintro z w3 ⟨v,L,rfl,ho,hLl,hp,hb3⟩
 have HO:=aZ (owns_mono ho (Nat.le_trans HB.out.size HB2.out.size))
 have HL:=aZ hLl
 have HP:=aZ hp
 have HB3:Hid (Below w.heap.size w w3):=aZ (HB.out.trans ((HB2.out.trans (hb3.mono HB2.out.size)).mono HB.out.size))
 clear ho hLl hp hb3 p0 p1 p2 p3 HE
 go_wp2
 obtain⟨A1,k1,rfl,-⟩:=HO.out.fs
 go_ret2
 exact⟨_,L,rfl,HO.out,HL.out,HP.out,HB3.out⟩
theorem word_of21{x v:Nat}(h:nz x=v)(hv:v≠9221120237041090560):x=v:=by
 rw[nz_eq] at h
 cases e:isN x
 ·rw[e] at h;exact h
 ·rw[e] at h;exact absurd h.symm hv
def x21:Nat->Nat:=λi=>if i=0 then 4607182418800017408 else if i=1 then 4611686018427387904 else if i=2 then 4613937818241073152 else 4616189618054758400
def h21:Nat->Cx:=λi=>if i=0 then(4621819117588971520,0) else if i=1 then(13835058055282163712,4611686018427387904) else(13835058055282163712,0)
theorem chk21:ChkC 0 2 0 .nil 2 0:=by
 have h:=Check_any 0 2 0 .nil 2 (by decide)
 rwa [show checkE 0 2 0 .nil 2=0 by kernel_rfl] at h
theorem plan21:PlanE 0 0 .nil 2 (directF ringR 2):=λm=>planX_leaf (ringC_ok m) 2 (by decide) (by decide) .nil
theorem vals21:∀i,i<3->fwF (directF ringR 2 (-1) (evC x21)) 2 4 i=h21 i:=by
 intro i hi
 rcases i with _|_|_|i
 ·kernel_rfl
 ·kernel_rfl
 ·kernel_rfl
 ·omega
theorem guard21:guardE (evC x21) 2=0:=by kernel_rfl
theorem fit21:idxI (onF λy=>!fitsB W890 y) (reF x21) 4=-1:=by kernel_rfl
theorem guard21b:guardE (prV (wholeC h21 4) 2 4) 2=0:=by kernel_rfl
theorem fit21b:idxI (λy=>!fitsC W890 y) h21 3=-1:=by kernel_rfl
theorem vals21b:(overF ringR (directF ringR 2 1 (prV (wholeC h21 4) 2 4)) 2 1).2=4616189618054758400:=by kernel_rfl
theorem fwd21(w:World)(A:Option Addr)(c:Nat)(X:Option Addr)(cx:Nat)(hX:FsAt w X 4 x21):
  Calls Tryz.prog 29 #[plV 0 2 0 A 0 c,.slice X 4 cx] w λz w'=>∃g,z=.returned (.tuple #[.slice (some ⟨g,0,none⟩) 3 3,.int .i64 0])/\RowC w' g 3 h21/\Below w.heap.size w w':=by
 refine(Forward_even 0 0 .nil 2 (directF ringR 2) plan21 chk21 A c X 4 cx x21 w trivial hX (by decide) (by decide) (by decide) guard21 fit21).mono ?_
 rintro z w' ⟨g,rfl,-,-,hr,hb⟩
 exact⟨g,rfl,hr.congr vals21,hb⟩
theorem bwd21(w:World)(A:Option Addr)(c:Nat)(X:Option Addr)(cx:Nat)(hX:CsAt w X 3 h21):
  Calls Tryz.prog 31 #[plV 0 2 0 A 0 c,.slice X 3 cx,.int .i64 4] w λz w'=>∃B d y,z=.returned (.tuple #[.slice B 4 d,.int .i64 0])/\FsAt w' B 4 y/\y 3=4616189618054758400/\Below w.heap.size w w':=by
 refine(Backward_even 0 0 .nil 2 (directF ringR 2) plan21 chk21 A c X 3 4 cx h21 w trivial hX (by decide) (by decide) (by decide) (by decide) guard21b fit21b).mono ?_
 rintro z w' ⟨v,L,rfl,ho,hl,hp,hb⟩
 obtain⟨B,d,rfl,hf,-⟩:=ho.fs
 rw[hl] at hf|-
 exact⟨B,d,_,rfl,hf,(hp 1 (by decide)).2.trans vals21b,hb⟩
theorem wakes21_any(w:World):Calls Tryz.prog 33 #[] w λz w'=>z=.returned (.bool true)/\Below w.heap.size w w':=by
 obtain⟨W,hW⟩:∃W,W=(w.alloc (.cells #[.int .i64 0,.int .i64 2,.int .i64 0,.slice none 0 0] 27)).alloc (.cells #[.float .f64 4607182418800017408,.float .f64 4611686018427387904,.float .f64 4613937818241073152,.float .f64 4616189618054758400] 33):=⟨_,rfl⟩
 have hb:Below w.heap.size w W:=by rw[hW];exact((Below.refl _ w).alloc (Nat.le_refl _) _).alloc (by simp) _
 have hP:PlBox W w.heap.size 0 2 0 none 0 0:=by
  rw[hW]
  exact⟨by simp[go_sem],by simp[go_sem],by simp[go_sem],by simp[go_sem]⟩
 have hX:FsAt W (some ⟨w.heap.size+1,0,none⟩) 4 x21:=by
  intro i hi
  rw[hW]
  rcases i with _|_|_|_|i
  ·exact⟨_,_,⟨4607182418800017408,by decide⟩,rfl,by simp[go_sem],by kernel_rfl⟩
  ·exact⟨_,_,⟨4611686018427387904,by decide⟩,rfl,by simp[go_sem],by kernel_rfl⟩
  ·exact⟨_,_,⟨4613937818241073152,by decide⟩,rfl,by simp[go_sem],by kernel_rfl⟩
  ·exact⟨_,_,⟨4616189618054758400,by decide⟩,rfl,by simp[go_sem],by kernel_rfl⟩
  ·omega
 have HX:=aZ (fwd21 W none 0 _ 4 hX)
 have HB:=aZ hb
 have HP:=aZ hP
 clear hX hb hP
 go_enter Tryz.func33,Tryz.ntmps33
 go_upto_region 2 with(fail)
 go_wp2_with fail
 rw[<-hW]
 clear hW
 refine HX.out.mono ?_
 rintro z w1 ⟨g,rfl,hr,hb1⟩
 have HB1:=aZ (HB.out.trans (hb1.mono HB.out.size))
 have HR:=aZ hr
 obtain⟨p0,p1,p2,p3⟩:=HP.out.below hb1
 clear hb1 hr
 obtain⟨W2,hW2⟩:∃W2,W2=w1.alloc (.cells #[.float .f64 4621819117588971520,.float .f64 0,.float .f64 13835058055282163712,.float .f64 4611686018427387904,.float .f64 13835058055282163712,.float .f64 0] 52):=⟨_,rfl⟩
 have hb2:Below w1.heap.size w1 W2:=by rw[hW2];exact(Below.refl _ _).alloc (Nat.le_refl _) _
 have hX2:CsAt W2 (some ⟨w1.heap.size,0,none⟩) 3 h21:=by
  intro i hi
  rw[hW2]
  rcases i with _|_|_|i
  ·exact⟨_,_,(⟨4621819117588971520,by decide⟩,0),rfl,by simp[go_sem],by simp[go_sem],by kernel_rfl⟩
  ·exact⟨_,_,(⟨13835058055282163712,by decide⟩,⟨4611686018427387904,by decide⟩),rfl,by simp[go_sem],by simp[go_sem],by kernel_rfl⟩
  ·exact⟨_,_,(⟨13835058055282163712,by decide⟩,0),rfl,by simp[go_sem],by simp[go_sem],by kernel_rfl⟩
  ·omega
 have HX2:=aZ (bwd21 W2 none 0 _ 3 hX2)
 have HB2:=aZ (HB1.out.trans (hb2.mono HB1.out.size))
 have HR2:=aZ (HR.out.keep hb2)
 clear hX2 hb2 HR HX HP
 go_wp2_with fail
 rw[<-hW2]
 clear hW2 p0 p1 p2 p3
 refine HX2.out.mono ?_
 rintro z w3 ⟨B,d,y,rfl,hf,hy,hb3⟩
 have HB3:=aZ (HB2.out.trans (hb3.mono HB2.out.size))
 have HR3:=HR2.out.keep hb3
 obtain⟨u,r0,-,-,-,hu⟩:=HR3 0 (by decide)
 have hu1:(u.1:Nat)=4621819117588971520:=word_of21 (congrArg Prod.fst hu) (by decide)
 rw[hu1,Nat.zero_mul] at r0
 obtain⟨v,-,r1,-,-,hv⟩:=HR3 1 (by decide)
 have hv1:(v.2:Nat)=4611686018427387904:=word_of21 (congrArg Prod.snd hv) (by decide)
 rw[hv1,Nat.one_mul,show 2+1=3 by decide] at r1
 obtain⟨b,o,x,rfl,r2,hx⟩:=hf 3 (by decide)
 have hx1:(x:Nat)=4616189618054758400:=word_of21 (hx.trans hy) (by decide)
 rw[hx1] at r2
 clear hf hy hb3 HR3 HR2 hu hu1 hv hv1 hx hx1 HX2
 have o1:(FloatKind.f64.format.order 4621819117588971520 4621813488089437307==some Ordering.gt)=true:=by kernel_rfl
 have o2:(FloatKind.f64.format.order 4621819117588971520 4621824747088505733==some Ordering.lt)=true:=by kernel_rfl
 have o3:(FloatKind.f64.format.order 4611686018427387904 4611640982431114199==some Ordering.gt)=true:=by kernel_rfl
 have o4:(FloatKind.f64.format.order 4611686018427387904 4611708536425524756==some Ordering.lt)=true:=by kernel_rfl
 have o5:(FloatKind.f64.format.order 4616189618054758400 4616167100056621548==some Ordering.gt)=true:=by kernel_rfl
 have o6:(FloatKind.f64.format.order 4616189618054758400 4616200877053826826==some Ordering.lt)=true:=by kernel_rfl
 have hw5:=HWants_any 5 w3
 rw[show wantsI 5=5 by kernel_rfl] at hw5
 have HW5:=aZ hw5
 clear hw5
 go_wp2_with fail
 refine HW5.out.mono ?_
 rintro z w4 ⟨rfl,rfl⟩
 go_wp2
 go_ret
 exact⟨rfl,HB3.out⟩
end Go.Proofs.YtmgfaeineklccaaGreat
