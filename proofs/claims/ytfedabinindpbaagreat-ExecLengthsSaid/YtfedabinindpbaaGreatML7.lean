/- Law 20's scaled, of whatever its Scale gives. -/
import Derived.Test.YtfedabinindpbaaGreatX0
import Derived.Test.YtfedabinindpbaaGreatMH3
import Derived.Test.YtfedabinindpbaaGreatMI3
import Derived.Test.YtfedabinindpbaaGreatML6
import Derived.Test.YtfedabinindpbaaGreatML5
set_option maxRecDepth 100000
set_option maxHeartbeats 4000000
set_option linter.unusedSimpArgs false
set_option linter.unusedVariables false
namespace Go.Proofs.YtfedabinindpbaaGreat
open Go.RowKit Go.Lib
theorem getD_old{L:List Wd}{p:Wd}{i:Nat}(h:i<L.length):(L++[p]).getD i 0=L.getD i 0:=by
 rw[List.getD_eq_getElem?_getD,List.getD_eq_getElem?_getD,List.getElem?_append_left h]
theorem getD_new{L:List Wd}{p:Wd}{i:Nat}(h:i=L.length):(L++[p]).getD i 0=p:=by
 rw[List.getD_eq_getElem?_getD,List.getElem?_append_right (by omega),h,Nat.sub_self];rfl
theorem scaled_any(X:Option Addr)(n c:Nat)(x:Nat->Cx)(kk:Int)(w:World)(hX:CsAt w X n x)(hn:n<=1000)(R1 R2:Nat->Nat->Prop)(hR:∀i,i<n->∀y:Rx,nC y=x i->(∀w,Calls Tryz.prog 13 #[.float .f64 (y.1:Nat),.int .i64 kk] w λz w'=>(∃p:Nat,(p<18446744073709551616/\R1 i p)/\z=.returned (.float .f64 p))/\w=w')/\
   (∀w,Calls Tryz.prog 13 #[.float .f64 (y.2:Nat),.int .i64 kk] w λz w'=>(∃p:Nat,(p<18446744073709551616/\R2 i p)/\z=.returned (.float .f64 p))/\w=w')):
  Calls Tryz.prog 12 #[.slice X n c,.int .i64 kk] w λz w'=>∃(u v:Value) (L M:List Wd),z=.returned (.tuple #[u,v])/\L.length=n/\M.length=n/\OwnL w' w.heap.size u L/\OwnL w' w.heap.size v M/\Apart u v/\Below w.heap.size w w'/\(∀i,i<n->R1 i (L.getD i 0:Wd)/\R2 i (M.getD i 0:Wd)):=by
 have HX:=aZ hX
 have HN:=aZ hn
 have HR:=aZ hR
 clear hX hn hR
 go_enter Tryz.func12,Tryz.ntmps12
 go_wp2
 go_loopw [6,7,12] (λu v vi wr=>∃(k:Nat) (L M:List Wd),k<=n/\vi=.int .i64 k/\Hid (L.length=k)/\Hid (M.length=k)/\Hid (OwnL wr w.heap.size u L)/\Hid (OwnL wr w.heap.size v M)/\Hid (Apart u v)/\Hid (Below w.heap.size w wr)/\Hid (∀i,i<k->R1 i (L.getD i 0:Wd)/\R2 i (M.getD i 0:Wd))) (λ_ _ vi _=>n-(intOf vi).toNat)
 case atStart=>exact⟨0,[],[],by omega,rfl,aZ rfl,aZ rfl,aZ (OwnL.nil _ _),aZ (OwnL.nil _ _),aZ (λg e=>(by cases e)),aZ (Below.refl _ _),aZ (λi hi=>by omega)⟩
 case round=>
  obtain⟨k,L,M,hk,rfl,hL,hM,hu,hv,hap,hb,hrr⟩:=hrel
  by_cases hlt:k<n
  ·have hki:(k:Int)<n:=by omega
   have hk9:k+1<=1000:=by have:=HN.out;omega
   obtain⟨b,o,y,rfl,c0,c1,hy⟩:=(HX.out.keep hb.out) k hlt
   have HC:=aZ (HR.out k hlt y hy)
   clear hy
   generalize hv5:u6=u at*
   generalize hv6:u7=v at*
   clear hv5 hv6
   obtain⟨wb,hwb⟩:∃wb,wb=wr.alloc (.cells #[.float .f64 (y.1:Nat),.float .f64 (y.2:Nat)] 29):=⟨_,rfl⟩
   obtain⟨gb,hgb⟩:∃gb,gb=wr.heap.size:=⟨_,rfl⟩
   have hc0:wb.cell? ⟨gb,0,none⟩=some (.float .f64 (y.1:Nat)):=by rw[hwb,hgb,World.cell?_alloc_new];rfl
   have hc1:wb.cell? ⟨gb,1,none⟩=some (.float .f64 (y.2:Nat)):=by rw[hwb,hgb,World.cell?_alloc_new];rfl
   have hbb:Below wr.heap.size wr wb:=by rw[hwb];exact(Below.refl _ wr).alloc (Nat.le_refl _) _
   have HB2:Hid (Below w.heap.size w wb):=aZ (hb.out.trans (hbb.mono hb.out.size))
   have HU2:=aZ (hu.out.below hbb)
   have HV2:=aZ (hv.out.below hbb)
   have HNU:Hid (∀g,u.ownBlock=some g->g<gb):=aZ (λg e=>by rw[hgb];exact(hu.out.lt g e).2)
   have HNV:Hid (∀g,v.ownBlock=some g->g<gb):=aZ (λg e=>by rw[hgb];exact(hv.out.lt g e).2)
   have HGB:Hid (gb<wb.heap.size):=aZ (by rw[hwb,hgb];simp)
   clear hbb hu hv hb
   go_upto_region 5 with fail
   rw[<-hwb,<-hgb]
   clear hwb hgb c0 c1
   refine wp_region_S (λw'=>(w'.cell? ⟨gb,0,none⟩=some (.float .f64 (y.1:Nat))/\w'.cell? ⟨gb,1,none⟩=some (.float .f64 (y.2:Nat)))) 14 (by kernel_rfl) ?_
   have hS0:(wb.drew.cell? ⟨gb,0,none⟩=some (.float .f64 (y.1:Nat))/\wb.drew.cell? ⟨gb,1,none⟩=some (.float .f64 (y.2:Nat))):=⟨hc0,hc1⟩
   refine Takes.intro [0,1,2,3,7,8,9,10] ?_
   repeat(refine Takes.go (v:=?_) hS0 ?_;try simp only[nrm,Act.put])
   refine Takes.nil ?_
   refine wpAnyS_1 4 (λK hK=>?_)
   go_simp
   refine(HC.out.1 _).mono ?_
   rintro z w2x ⟨⟨p0,⟨hp,hp1⟩,rfl⟩,rfl⟩
   obtain⟨p,rfl⟩:∃p:Wd,p0=(p:Nat):=⟨⟨p0,hp⟩,rfl⟩
   have HP1:=aZ hp1
   clear hp1
   refine hK.out _ _ (λ_=>hS0) ?_
   clear hK K hp
   try simp only[nrm,Act.put]
   refine wpAnyS_1 5 (λK hK=>?_)
   have hbs:=bs_float p
   go_simp
   obtain⟨wc,hwc⟩:∃wc,wc=(wb.alloc (.cells #[.float .f64 (p:Nat)] 24)).drew:=⟨_,rfl⟩
   obtain⟨gc,hgc⟩:∃gc,gc=wb.heap.size:=⟨_,rfl⟩
   have hagc:wc.cell? ⟨gc,0,none⟩=some (.float .f64 (p:Nat)):=by rw[hwc,hgc];show(wb.alloc _).cell? _=_;rw[World.cell?_alloc_new];rfl
   have HBC:Hid (Below wb.heap.size wb wc):=aZ (by rw[hwc];exact((Below.refl _ wb).alloc (Nat.le_refl _) _).drew)
   have hszwc:gc<wc.heap.size:=by rw[hwc,hgc];simp
   have hS0n:(wc.cell? ⟨gb,0,none⟩=some (.float .f64 (y.1:Nat))/\wc.cell? ⟨gb,1,none⟩=some (.float .f64 (y.2:Nat))):=⟨keep_cell HBC.out hS0.1,keep_cell HBC.out hS0.2⟩
   rw[<-hwc,<-hgc]
   refine hK.out _ _ (λ_=>hS0n) ?_
   clear hK K hwc hbs
   try simp only[nrm,Act.put]
   refine wpAnyS_1 6 (λK hK=>?_)
   refine wp_app1L _ _ rfl w.heap.size u L rfl (HU2.out.below HBC.out) gc _ p rfl hagc (by have:=hL.out;omega) (HB2.out.trans (HBC.out.mono HB2.out.size)).size ?_
   intro g1 k1 wd hr1 hg1 hs1
   have hne1:u.ownBlock≠some gb:=λe=>Nat.lt_irrefl _ (HNU.out gb e)
   have hS2:(wd.cell? ⟨gb,0,none⟩=some (.float .f64 (y.1:Nat))/\wd.cell? ⟨gb,1,none⟩=some (.float .f64 (y.2:Nat))):=⟨grown_cell hg1.out hS0n.1 hne1,grown_cell hg1.out hS0n.2 hne1⟩
   have HBD:Hid (Below w.heap.size w wd):=aZ ((HB2.out.trans (HBC.out.mono HB2.out.size)).grown hg1.out (HB2.out.trans (HBC.out.mono HB2.out.size)).size (λg e=>(HU2.out.lt g e).1))
   have HVD:Hid (OwnL wd w.heap.size v M):=aZ ((HV2.out.below HBC.out).kept hg1.out hap.out)
   have HAD:Hid (Apart (.slice (some ⟨g1,0,none⟩) (L.length+1) k1) v):=aZ (hap.out.next (HV2.out.below HBC.out) hs1.out)
   refine hK.out _ _ (λ_=>hS2) ?_
   clear hK K hg1 hs1 hagc hszwc hne1 HU2 HV2 HBC HB2 hap hS0n hS0
   try simp only[nrm,Act.put]
   refine wpAnyS_1 11 (λK hK=>?_)
   go_simp
   refine(HC.out.2 _).mono ?_
   rintro z w3x ⟨⟨q0,⟨hq,hq1⟩,rfl⟩,rfl⟩
   obtain⟨q,rfl⟩:∃q:Wd,q0=(q:Nat):=⟨⟨q0,hq⟩,rfl⟩
   have HQ1:=aZ hq1
   clear hq1
   refine hK.out _ _ (λ_=>hS2) ?_
   clear hK K hq
   try simp only[nrm,Act.put]
   refine wpAnyS_1 12 (λK hK=>?_)
   have hbs:=bs_float q
   go_simp
   obtain⟨we,hwe⟩:∃we,we=(wd.alloc (.cells #[.float .f64 (q:Nat)] 24)):=⟨_,rfl⟩
   obtain⟨ge,hge⟩:∃ge,ge=wd.heap.size:=⟨_,rfl⟩
   have hage:we.cell? ⟨ge,0,none⟩=some (.float .f64 (q:Nat)):=by rw[hwe,hge];show(wd.alloc _).cell? _=_;rw[World.cell?_alloc_new];rfl
   have HBE:Hid (Below wd.heap.size wd we):=aZ (by rw[hwe];exact(Below.refl _ wd).alloc (Nat.le_refl _) _)
   have hszwe:ge<we.heap.size:=by rw[hwe,hge];simp
   have hS2n:(we.cell? ⟨gb,0,none⟩=some (.float .f64 (y.1:Nat))/\we.cell? ⟨gb,1,none⟩=some (.float .f64 (y.2:Nat))):=⟨keep_cell HBE.out hS2.1,keep_cell HBE.out hS2.2⟩
   rw[<-hwe,<-hge]
   refine hK.out _ _ (λ_=>hS2n) ?_
   clear hK K hwe hbs
   try simp only[nrm,Act.put]
   refine wpAnyS_1 13 (λK hK=>?_)
   refine wp_app1L _ _ rfl w.heap.size v M rfl (HVD.out.below HBE.out) ge _ q rfl hage (by have:=hM.out;omega) (HBD.out.trans (HBE.out.mono HBD.out.size)).size ?_
   intro g2 k2 wf hr2 hg2 hs2
   have hne2:v.ownBlock≠some gb:=λe=>Nat.lt_irrefl _ (HNV.out gb e)
   have hS3:(wf.cell? ⟨gb,0,none⟩=some (.float .f64 (y.1:Nat))/\wf.cell? ⟨gb,1,none⟩=some (.float .f64 (y.2:Nat))):=⟨grown_cell hg2.out hS2n.1 hne2,grown_cell hg2.out hS2n.2 hne2⟩
   have HBF:Hid (Below w.heap.size w wf):=aZ ((HBD.out.trans (HBE.out.mono HBD.out.size)).grown hg2.out (HBD.out.trans (HBE.out.mono HBD.out.size)).size (λg e=>(HVD.out.lt g e).1))
   have HRU:Hid (OwnL wf w.heap.size (.slice (some ⟨g1,0,none⟩) (L.length+1) k1) (L++[p])):=aZ ((OwnL.below hr1.out HBE.out).kept hg2.out HAD.out.symm)
   have HAF:Hid (Apart (.slice (some ⟨g1,0,none⟩) (L.length+1) k1) (.slice (some ⟨g2,0,none⟩) (M.length+1) k2)):=aZ ((HAD.out.symm.next (OwnL.below hr1.out HBE.out) hs2.out).symm)
   refine hK.out _ _ (λ_=>hS3) ?_
   clear hK K hg2 hs2 hage hszwe hne2 HVD HBE HBD HAD hS2n hS2 hr1 hS3
   try simp only[nrm,Act.put]
   refine wpAnyS_fin 2 14 ?_
   simp only[nrd]
   have HL2:Hid ((L++[p]).length=k+1):=aZ (by rw[List.length_append,hL.out];rfl)
   have HM2:Hid ((M++[q]).length=k+1):=aZ (by rw[List.length_append,hM.out];rfl)
   have HRN:Hid (∀i,i<k+1->R1 i ((L++[p]).getD i 0:Wd)/\R2 i ((M++[q]).getD i 0:Wd)):=aZ (λi hi=>by
    rcases(show i<k\/i=k by omega) with h|rfl
    ·rw[getD_old (by rw[hL.out];exact h),getD_old (by rw[hM.out];exact h)]
     exact hrr.out i h
    ·rw[getD_new hL.out.symm,getD_new hM.out.symm]
     exact⟨HP1.out,HQ1.out⟩)
   obtain⟨V1,hV1⟩:∃V,V=Value.slice (some ⟨g1,0,none⟩) (L.length+1) k1:=⟨_,rfl⟩
   obtain⟨V2,hV2⟩:∃V,V=Value.slice (some ⟨g2,0,none⟩) (M.length+1) k2:=⟨_,rfl⟩
   rw[<-hV1] at HRU HAF
   rw[<-hV2] at hr2 HAF
   rw[<-hV1,<-hV2]
   clear hV1 hV2 hgc hge hc0 hc1 HNU HNV HGB hL hM HX
   go_wp2
   exact⟨⟨k+1,_,_,by omega,by go_num,HL2,HM2,HRU,hr2,HAF,HBF,HRN⟩,by simp[intOf];omega⟩
  ·obtain rfl:k=n:=by omega
   go_wp2
   go_ret2
   exact⟨_,_,L,M,rfl,hL.out,hM.out,hu.out,hv.out,hap.out,hb.out,hrr.out⟩
end Go.Proofs.YtfedabinindpbaaGreat
namespace Go.Proofs.YtfedabinindpbaaGreat
open Go.RowKit Go.Lib Fl
theorem iv_lt_all{x E:Nat}(hE:E=2098)(fx:Fnt x):(iv x).natAbs<2^E:=by
 obtain⟨F,hF⟩:∃F,F=2046:=⟨_,rfl⟩
 have h1:=iv_abs0 fx
 have h2:=iv_mono (r:=x%9223372036854775808) (q:=9218868437227405311) (by have:=fx.2;omega) (by omega)
 have h3:=@iv_pos F 4503599627370495 (by omega) (by omega) (by omega)
 rw[show F*4503599627370496+4503599627370495=9218868437227405311 by omega] at h3
 have h4:((4503599627370496+4503599627370495:Nat):Int)*2^(F-1)<((2^E:Nat):Int):=by
  rw[show E=53+(F-1) by omega,Nat.pow_add,Int.natCast_mul,Int.natCast_pow 2 (F-1)]
  exact Int.mul_lt_mul_of_pos_right (by decide) (pow_pos_int _)
 generalize 2^E=q at*
 omega
theorem RScale_same{x:Nat}(hx:Fnt x)(w:World):Calls Tryz.prog 13 #[.float .f64 x,.int .i64 0] w λz w'=>(∃y,(y<18446744073709551616/\Fnt y/\iv y=iv x)/\z=.returned (.float .f64 y))/\w=w':=by
 obtain⟨E,hE⟩:∃E,E=2098:=⟨_,rfl⟩
 refine(RScale_val hx 0 (by omega) (by omega) (a:=0) (b:=0) (K0:=E) rfl rfl (by omega) (by rw[Nat.pow_zero,Nat.mul_one,Nat.add_zero];exact iv_lt_all hE hx) w).mono ?_
 rintro z w' ⟨⟨y,h,rfl⟩,rfl⟩
 exact⟨⟨y,⟨h.1.1,h.1,HalfS.same h⟩,rfl⟩,rfl⟩
theorem nC_fin{y:Rx}{c:Cx}(h:nC y=c)(f:Fnt c.1/\Fnt c.2):(y.1:Nat)=c.1/\(y.2:Nat)=c.2:=by
 have h1:nz y.1=c.1:=congrArg Prod.fst h
 have h2:nz y.2=c.2:=congrArg Prod.snd h
 have f1:=f.1
 have f2:=f.2
 rw[<-h1] at f1
 rw[<-h2] at f2
 exact⟨by rw[<-h1,nz_fin f1 y.1.isLt],by rw[<-h2,nz_fin f2 y.2.isLt]⟩
theorem TopIs.like{f g:Nat->Nat}{n:Nat}{K:Int}(h:TopIs f n K true)(hg:∀i,i<n->Fnt (g i))(e:∀i,i<n->iv (f i)=iv (g i)):TopIs g n K true:=by
 rcases h with⟨h,-⟩|⟨-,h1,E,h2,h3,h4,h5⟩
 ·cases h
 ·refine .inr ⟨rfl,hg,E,h2,h3,λi hi=>by rw[<-e i hi];exact h4 i hi,?_⟩
  rcases h5 with h|⟨i,hi,h⟩
  ·exact .inl h
  ·exact .inr ⟨i,hi,by rw[<-e i hi];exact h⟩
theorem ltop_any(X:Option Addr)(n c:Nat)(x:Nat->Cx)(w:World)(hX:CsAt w X n x)(hn:n<=60)(hf:∀i,i<n->Fnt (x i).1/\Fnt (x i).2):
  Calls Tryz.prog 11 #[.slice X n c] w λz w'=>(∃K,z=.returned (.int .i64 K)/\TopIs (CG.joinW (λi=>(x i).1) (λi=>(x i).2) n) (n+n) K true)/\Below w.heap.size w w':=by
 have HS:=aZ (scaled_any X n c x 0 w hX (by omega) (λi p=>Fnt p/\iv p=iv (x i).1) (λi p=>Fnt p/\iv p=iv (x i).2) (λi hi y hy=>by
  obtain⟨e1,e2⟩:=nC_fin hy (hf i hi)
  rw[e1,e2]
  exact⟨λw=>RScale_same (hf i hi).1 w,λw=>RScale_same (hf i hi).2 w⟩))
 have HF:=aZ hf
 clear hX hf
 go_enter Tryz.func11,Tryz.ntmps11
 go_wp2_with fail
 refine(HS.out).mono ?_
 rintro z w1 ⟨u,v,L,M,rfl,hL,hM,oL,oM,hap,hb,hr⟩
 obtain⟨A1,c1,rfl,-,-,-⟩:=oL.fla
 obtain⟨A2,c2,rfl,-,-,-⟩:=oM.fla
 have OL:=aZ oL
 have OM:=aZ oM
 have HL:=aZ (And.intro hL (And.intro hM hr))
 have HBB:=aZ hb
 have HS:=()
 clear oL oM hL hM hr hb hap
 go_wp2_with (at_builtin;refine wpList_catL rfl _ _ rfl w.heap.size _ _ L M rfl OL.out rfl OM.out (by have:=HL.out;omega) HBB.out.size ?_;intro v' w2 hO hg)
 have HB2:Hid (Below w.heap.size w w2):=aZ (HBB.out.grown hg.out HBB.out.size (λk e=>(OL.out.lt k e).1))
 obtain⟨A,c,rfl,hA,-,-⟩:=hO.out.fla
 have hlen:(L++M).length=n+n:=by rw[List.length_append,HL.out.1,HL.out.2.1]
 rw[hlen] at hA|-
 obtain⟨W,hW⟩:∃W:Nat->Nat,W=λi=>(((L++M).getD i 0:Wd):Nat):=⟨_,rfl⟩
 rw[<-hW] at hA
 have HT:=aZ (λw hw=>refTop_any A (n+n) c W w hw (by omega) (λi hi=>by rw[hW];exact((L++M).getD i 0).2))
 have HA:=aZ hA
 have HI:Hid (∀i,i<n+n->Fnt (W i)/\Fnt (CG.joinW (λi=>(x i).1) (λi=>(x i).2) n i)/\iv (W i)=iv (CG.joinW (λi=>(x i).1) (λi=>(x i).2) n i)):=aZ (by
  intro i hi
  obtain⟨e1,e2,e3⟩:=HL.out
  rw[hW]
  unfold CG.joinW
  split
  ·rename_i h
   obtain⟨⟨p1,p2⟩,-⟩:=e3 i h
   show Fnt ((L++M).getD i 0:Wd)/\Fnt (x i).1/\iv ((L++M).getD i 0:Wd)=iv (x i).1
   rw[List.getD_eq_getElem?_getD,List.getElem?_append_left (by omega),<-List.getD_eq_getElem?_getD]
   exact⟨p1,(HF.out i h).1,p2⟩
  ·rename_i h
   obtain⟨j,hj,rfl⟩:∃j,j<n/\i=n+j:=⟨i-n,by omega,by omega⟩
   obtain⟨-,⟨p1,p2⟩⟩:=e3 j hj
   rw[show n+j-n=j by omega]
   show Fnt ((L++M).getD (n+j) 0:Wd)/\Fnt (x j).2/\iv ((L++M).getD (n+j) 0:Wd)=iv (x j).2
   rw[List.getD_eq_getElem?_getD,List.getElem?_append_right (by omega),<-List.getD_eq_getElem?_getD,show n+j-L.length=j by omega]
   exact⟨p1,(HF.out j hj).2,p2⟩)
 clear hA hlen OL OM HL hO hg HBB hW
 refine(HT.out _ HA.out).mono ?_
 rintro z w3 ⟨⟨K,ok⟩,rfl,ht,rfl⟩
 rcases ht with⟨rfl,rfl,i,hi,hq⟩|⟨rfl,hF,hE⟩
 ·have:=(fin_low (HI.out i hi).1.1).2 (HI.out i hi).1
  rw[this] at hq;cases hq
 ·have GOOD:=aZ (TopIs.like (.inr ⟨rfl,hF,hE⟩) (λi hi=>(HI.out i hi).2.1) (λi hi=>(HI.out i hi).2.2))
  clear hF hE HT HI
  go_wp2_with fail
  go_ret
  exact⟨⟨_,rfl,GOOD.out⟩,HB2.out⟩
end Go.Proofs.YtfedabinindpbaaGreat
namespace Go.Proofs.YtfedabinindpbaaGreat
open Go.RowKit Go.Lib Fl CG
def NoughtS(f:Nat->Nat)(n:Nat):Prop:=∀i,i<n->iv (f i)=0
def LenI(f:Nat->Nat)(a b n i s:Nat):Prop:=(NoughtS f n/\Fnt s/\iv s=0)\/(¬NoughtS f n/\SumN (sqS f a b n) (sqS f a b i) (8*(i:Rat)*uu) s)
def LawI(x y:Nat->Nat)(a b n i s:Nat):Prop:=(NoughtS (joinW x y n) (n+n)/\Fnt s/\iv s=0)\/(¬NoughtS (joinW x y n) (n+n)/\SumN (sqS (joinW x y n) a b (n+n)) (sqS x a b i+sqS y a b i) (16*(i:Rat)*uu) s)
def Scl(x p a b:Nat):Prop:=Fnt p/\rv p-vS x a b<=2*ul/\vS x a b-rv p<=2*ul/\(iv x=0->iv p=0)
structure Tops(f:Nat->Nat)(n a b:Nat):Prop where
 fin:∀i,i<n->Fnt (f i)
 lt:∀i,i<n->(iv (f i)).natAbs*2^b<2^(U+a)
 half:NoughtS f n\/∃i,i<n/\2^(U+a)<=2*((iv (f i)).natAbs*2^b)
theorem TopIs.tops{f:Nat->Nat}{n:Nat}{K:Int}(h:TopIs f n K true){a b:Nat}(ha:a=K.toNat)(hb:b=(-K).toNat):Tops f n a b:=by
 rcases h with⟨h,-⟩|⟨-,h1,E,h2,h3,h4,h5⟩
 ·cases h
 refine⟨h1,top_bd h2 ha hb h4,?_⟩
 rcases Nat.eq_zero_or_pos E with h|h
 ·left
  intro i hi
  have:=h4 i hi
  rw[h,Nat.pow_zero] at this
  omega
 ·rcases h5 with h5|⟨i,hi,h5⟩
  ·omega
  ·exact .inr ⟨i,hi,top_half h2 ha hb h h5⟩
theorem TopIs.rng{f:Nat->Nat}{n:Nat}{K:Int}(h:TopIs f n K true):-1074<=K/\K<=1024:=by
 rcases h with⟨h,-⟩|⟨-,h1,E,h2,h3,h4,h5⟩
 ·cases h
 ·omega
theorem TopIs.same{f:Nat->Nat}{n:Nat}{K L:Int}(h:TopIs f n K true)(g:TopIs f n L true):K=L:=by
 have aux:∀{K L:Int} {E F:Nat},(E:Int)=K+1074->(F:Int)=L+1074->(∀i,i<n->(iv (f i)).natAbs<2^E)->(F=0\/∃i,i<n/\2^(F-1)<=(iv (f i)).natAbs)->L<=K:=by
  intro K L E F h1 h2 h3 h4
  rcases h4 with h4|⟨i,hi,h4⟩
  ·omega
  ·have:=h3 i hi
   have h5:2^(F-1)<2^E:=Nat.lt_of_le_of_lt h4 this
   have:F-1<E:=(Nat.pow_lt_pow_iff_right (by decide)).1 h5
   omega
 rcases h with⟨h,-⟩|⟨-,-,E,e1,e2,e3,e4⟩
 ·cases h
 rcases g with⟨h,-⟩|⟨-,-,F,f1,f2,f3,f4⟩
 ·cases h
 have a:=aux e1 f1 e3 f4
 have b:=aux f1 e1 f3 e4
 omega
theorem Tops.one{f:Nat->Nat}{n a b:Nat}(h:Tops f n a b){i:Nat}(hi:i<n):vS (f i) a b<=1/\-vS (f i) a b<=1:=vS_one (Nat.le_of_lt (h.lt i hi))
theorem Tops.low{f:Nat->Nat}{n a b:Nat}(h:Tops f n a b)(hz:¬NoughtS f n):1/4<=sqS f a b n:=by
 rcases h.half with g|⟨i,hi,g⟩
 ·exact absurd g hz
 ·have h1:=vS_half g
  have h2:=sqS_ge f a b hi
  grind
theorem Tops.high{f:Nat->Nat}{n a b:Nat}(h:Tops f n a b)(hn:n<=120):sqS f a b n<=120:=by
 have h1:=sqS_up f a b n (λi hi=>h.one hi)
 have h2:(n:Rat)<=((120:Nat):Rat):=Rat.natCast_le_natCast.2 hn
 have h3:((120:Nat):Rat)=120:=rfl
 rw[h3] at h2
 grind
theorem cast_small{i n:Nat}(hi:i<=n):0<=(i:Rat)/\(i:Rat)<=(n:Rat):=⟨Rat.natCast_nonneg,Rat.natCast_le_natCast.2 hi⟩
theorem small_c{k i:Rat}(hk:0<=k)(hk2:k<=16)(hi:0<=i)(hi2:i<=120):0<=k*i*uu/\k*i*uu<=1/4:=by
 have hu:=uu_small
 have h0:=Rat.mul_nonneg hk hi
 have h1:=Rat.mul_nonneg h0 (Rat.le_of_lt hu.1)
 have h2:=Rat.mul_le_mul_of_nonneg_right hk2 hi
 have h3:k*i<=1920:=by grind
 have h4:=Rat.mul_le_mul_of_nonneg_right h3 (Rat.le_of_lt hu.1)
 exact⟨h1,by grind⟩
theorem LenI.zero(f:Nat->Nat)(a b n:Nat):LenI f a b n 0 0:=by
 by_cases h:NoughtS f n
 ·exact .inl ⟨h,by decide,iv_zero⟩
 ·refine .inr ⟨h,?_⟩
  have:=SumN.zero (sqS f a b n)
  have e:(8*((0:Nat):Rat)*uu)=0:=by have:((0:Nat):Rat)=0:=rfl;rw[this];grind
  rw[e];exact this
theorem LenI.step{f:Nat->Nat}{a b n i s p:Nat}(ht:Tops f n a b)(hn:n<=120)(hi:i<n)(h:LenI f a b n i s)(hp:Scl (f i) p a b):
  fmul p p=some (fM p p)/\fadd s (fM p p)=some (fA s (fM p p))/\LenI f a b n (i+1) (fA s (fM p p)):=by
 obtain⟨fp,p1,p2,p3⟩:=hp
 rcases h with⟨hz,fs,vs⟩|⟨hz,h⟩
 ·obtain⟨m1,m2,m3⟩:=zero_mul fp (p3 (hz i hi))
  obtain⟨d1,d2,d3⟩:=zero_add fs m2 vs m3
  exact⟨m1,d1,.inl ⟨hz,d2,d3⟩⟩
 ·obtain⟨v1,v2⟩:=ht.one hi
  obtain⟨c1,c2⟩:=cast_small (show i<=120 by omega)
  obtain⟨k1,k2⟩:=small_c (k:=8) (by grind) (by grind) c1 (by have:((120:Nat):Rat)=120:=rfl;grind)
  have hle:sqS f a b i+vS (f i) a b*vS (f i) a b<=sqS f a b n:=sqS_le f a b (show i+1<=n by omega)
  obtain⟨d1,d2,d3⟩:=SumN.step (ht.low hz) (ht.high hn) k1 k2 (sqS_nn f a b i) hle h fp v1 v2 p1 p2
  refine⟨d1,d2,.inr ⟨hz,?_⟩⟩
  rw[sqS_succ,Rat.natCast_add,show 8*((i:Rat)+((1:Nat):Rat))*uu=8*(i:Rat)*uu+8*uu by have:((1:Nat):Rat)=1:=rfl;rw[this];grind]
  exact d3
theorem LawI.zero(x y:Nat->Nat)(a b n:Nat):LawI x y a b n 0 0:=by
 by_cases h:NoughtS (joinW x y n) (n+n)
 ·exact .inl ⟨h,by decide,iv_zero⟩
 ·refine .inr ⟨h,?_⟩
  have:=SumN.zero (sqS (joinW x y n) a b (n+n))
  have e:(16*((0:Nat):Rat)*uu)=0:=by have:((0:Nat):Rat)=0:=rfl;rw[this];grind
  have e2:sqS x a b 0+sqS y a b 0=0:=by show(0:Rat)+0=0;grind
  rw[e,e2];exact this
theorem join_x(x y:Nat->Nat){n i:Nat}(h:i<n):joinW x y n i=x i:=by unfold joinW;rw[if_pos h]
theorem join_y(x y:Nat->Nat){n i:Nat}:joinW x y n (n+i)=y i:=by unfold joinW;rw[if_neg (by omega)];congr 1;omega
theorem LawI.step{x y:Nat->Nat}{a b n i s p q:Nat}(ht:Tops (joinW x y n) (n+n) a b)(hn:n<=60)(hi:i<n)(h:LawI x y a b n i s)(hp:Scl (x i) p a b)(hq:Scl (y i) q a b):
  fmul p p=some (fM p p)/\fmul q q=some (fM q q)/\fadd (fM p p) (fM q q)=some (fA (fM p p) (fM q q))/\fadd s (fA (fM p p) (fM q q))=some (fA s (fA (fM p p) (fM q q)))/\LawI x y a b n (i+1) (fA s (fA (fM p p) (fM q q))):=by
 obtain⟨fp,p1,p2,p3⟩:=hp
 obtain⟨fq,q1,q2,q3⟩:=hq
 rcases h with⟨hz,fs,vs⟩|⟨hz,h⟩
 ·have z1:=hz i (by omega)
  have z2:=hz (n+i) (by omega)
  rw[join_x x y hi] at z1
  rw[join_y] at z2
  obtain⟨m1,m2,m3⟩:=zero_mul fp (p3 z1)
  obtain⟨n1,n2,n3⟩:=zero_mul fq (q3 z2)
  obtain⟨d1,d2,d3⟩:=zero_add m2 n2 m3 n3
  obtain⟨e1,e2,e3⟩:=zero_add fs d2 vs d3
  exact⟨m1,n1,d1,e1,.inl ⟨hz,e2,e3⟩⟩
 ·have v:=ht.one (i:=i) (by omega)
  have yv:=ht.one (i:=n+i) (by omega)
  rw[join_x _ _ hi] at v
  rw[join_y] at yv
  obtain⟨c1,c2⟩:=cast_small (show i<=120 by omega)
  obtain⟨k1,k2⟩:=small_c (k:=16) (by grind) (by grind) c1 (by have:((120:Nat):Rat)=120:=rfl;grind)
  have hle:=sqS_le x a b (show i+1<=n by omega)
  have hle2:=sqS_le y a b (show i+1<=n by omega)
  have hj:=sqS_join x y a b n
  rw[sqS_succ] at hle hle2
  have hx0:=sqS_nn x a b i
  have hy0:=sqS_nn y a b i
  obtain⟨d1,d2,d3,d4,d5⟩:=SumN.step2 (ht.low hz) (ht.high (by omega)) k1 k2 (by grind) (by rw[hj];grind) h fp v.1 v.2 p1 p2 fq yv.1 yv.2 q1 q2
  refine⟨d1,d2,d3,d4,.inr ⟨hz,?_⟩⟩
  rw[sqS_succ,sqS_succ,Rat.natCast_add,show 16*((i:Rat)+((1:Nat):Rat))*uu=16*(i:Rat)*uu+16*uu by have:((1:Nat):Rat)=1:=rfl;rw[this];grind]
  rw[show sqS x a b i+vS (x i) a b*vS (x i) a b+(sqS y a b i+vS (y i) a b*vS (y i) a b)=sqS x a b i+sqS y a b i+(vS (x i) a b*vS (x i) a b+vS (y i) a b*vS (y i) a b) by grind]
  exact d5
theorem fS_some{x y:Nat}(hx:Fnt x)(hy:Fnt y)(h1:rv x-rv y<om)(h2:-om<rv x-rv y):fsub x y=some (fS x y):=by
 have e:rv x-rv y=((iv x-iv y:Int):Rat)*ul:=by unfold rv;rw[Rat.intCast_sub];grind
 rw[om_eq,e] at h1 h2
 obtain⟨z,hz,fz,vz⟩:=fsub_spec hx hy (abs_lt h1 h2)
 have ez:fS x y=z:=by
  have:fsub x y=Ieee.double.sub x y:=rfl
  unfold fS fN
  rw[<-this,hz];rfl
 rw[ez]
 exact hz
def LenF(f:Nat->Nat)(a b n:Nat)(K:Int)(g:Nat)(k:Int):Prop:=(NoughtS f n/\g=0/\k=0)\/(¬NoughtS f n/\∃s,SumN (sqS f a b n) (sqS f a b n) (960*uu) s/\fsqrt s=some g/\k=K)
theorem SumN.wide{S A c d:Rat}{s:Nat}(h:SumN S A c s)(hS:0<=S)(hcd:c<=d):SumN S A d s:=by
 obtain⟨h1,h2,h3⟩:=h
 have:=Rat.mul_le_mul_of_nonneg_right hcd hS
 exact⟨h1,by grind,by grind⟩
theorem c_wide{k i m:Rat}(hk:0<=k)(hm:k*i<=m):k*i*uu<=m*uu:=Rat.mul_le_mul_of_nonneg_right hm (Rat.le_of_lt uu_small.1)
theorem SumN.pos{S:Rat}{s:Nat}(h:SumN S S (960*uu) s)(hS:1/4<=S):1/8<=rv s:=by
 obtain⟨h1,h2,h3⟩:=h
 have hu:=uu_small
 have:=Rat.mul_le_mul_of_nonneg_right (show 960*uu<=1/2 by grind) (show 0<=S by grind)
 grind
theorem order_pos{s:Nat}(fs:Fnt s)(h:1/8<=rv s):(FloatKind.f64.format.order s 0==some Ordering.eq)=false:=by
 have hp:¬iv s<=iv 0:=λhc=>by
  have h1:=Rat.intCast_le_intCast.2 hc
  have h2:=Rat.mul_le_mul_of_nonneg_right h1 (Rat.le_of_lt ul_unit.2)
  have h3:=rv_zero
  unfold rv at h h3
  grind
 have e:FloatKind.f64.format.order s 0=some (compare (iv s) (iv 0)):=order_spec fs (by decide)
 rw[e,Int.compare_eq_gt.2 (by omega)];rfl
theorem order_null{s:Nat}(fs:Fnt s)(h:iv s=0):(FloatKind.f64.format.order s 0==some Ordering.eq)=true:=by
 have e:FloatKind.f64.format.order s 0=some (compare (iv s) (iv 0)):=order_spec fs (by decide)
 rw[e,iv_zero,h];rfl
theorem LenI.fin{f:Nat->Nat}{a b n s:Nat}{K:Int}(h:LenI f a b n n s)(ht:Tops f n a b)(hn:n<=120):
  (FloatKind.f64.format.order s 0==some Ordering.eq)=true/\LenF f a b n K 0 0\/(FloatKind.f64.format.order s 0==some Ordering.eq)=false/\∃g,fsqrt s=some g/\LenF f a b n K g K:=by
 rcases h with⟨hz,fs,vs⟩|⟨hz,h⟩
 ·exact .inl ⟨order_null fs vs,.inl ⟨hz,rfl,rfl⟩⟩
 ·have hS:=ht.low hz
  have h2:SumN (sqS f a b n) (sqS f a b n) (960*uu) s:=SumN.wide h (by grind) (c_wide (by grind) (by
   have:=(cast_small hn).2
   have e:((120:Nat):Rat)=120:=rfl
   rw[e] at this
   grind))
  have hp:=SumN.pos h2 hS
  obtain⟨g,hg,-⟩:=sqrt_val h.1 rfl (big_iv rfl hp)
  exact .inr ⟨order_pos h.1 hp,g,hg,.inr ⟨hz,s,h2,hg,rfl⟩⟩
theorem LawI.fin{x y:Nat->Nat}{a b n l:Nat}(h:LawI x y a b n n l)(ht:Tops (joinW x y n) (n+n) a b)(hn:n<=60):
  (FloatKind.f64.format.order l 0==some Ordering.eq)=true/\NoughtS (joinW x y n) (n+n)\/(FloatKind.f64.format.order l 0==some Ordering.eq)=false/\¬NoughtS (joinW x y n) (n+n)/\SumN (sqS (joinW x y n) a b (n+n)) (sqS (joinW x y n) a b (n+n)) (960*uu) l:=by
 rcases h with⟨hz,fs,vs⟩|⟨hz,h⟩
 ·exact .inl ⟨order_null fs vs,hz⟩
 ·have hS:=ht.low hz
  rw[<-sqS_join] at h
  have h2:SumN (sqS (joinW x y n) a b (n+n)) (sqS (joinW x y n) a b (n+n)) (960*uu) l:=SumN.wide h (by grind) (c_wide (by grind) (by
   have:=(cast_small hn).2
   have e:((60:Nat):Rat)=60:=rfl
   rw[e] at this
   grind))
  exact .inr ⟨order_pos h.1 (SumN.pos h2 hS),hz,h2⟩
theorem quarter_val:Fnt 4598175219545276416/\rv 4598175219545276416=1/4:=by
 refine⟨by decide,?_⟩
 obtain⟨F,hF⟩:∃F,F=1021:=⟨_,rfl⟩
 have h:=@iv_pos F 0 (by omega) (by omega) (by omega)
 rw[show F*4503599627370496+0=4598175219545276416 by omega] at h
 have h2:iv 4598175219545276416*4=((2^U:Nat):Int):=by
  have hU:=U_eq
  rw[h,show U=52+(F-1)+2 by omega,Nat.pow_add,Nat.pow_add,Int.natCast_mul,Int.natCast_mul,Int.natCast_pow 2 (F-1)]
  rfl
 have h3:(iv 4598175219545276416:Rat)*4=(((2^U:Nat):Nat):Rat):=by
  rw[<-Rat.intCast_natCast,<-h2,Rat.intCast_mul];rfl
 obtain⟨ux,hu⟩:=ul_unit
 unfold rv
 rw[<-h3] at ux
 grind
theorem million_val:Fnt 4697254411347427328/\rv 4697254411347427328=1048576:=by
 refine⟨by decide,?_⟩
 obtain⟨F,hF⟩:∃F,F=1043:=⟨_,rfl⟩
 have h:=@iv_pos F 0 (by omega) (by omega) (by omega)
 rw[show F*4503599627370496+0=4697254411347427328 by omega] at h
 have h2:iv 4697254411347427328=1048576*((2^U:Nat):Int):=by
  have hU:=U_eq
  rw[h,show F-1=(U-52)+20 by omega,show((2^U:Nat):Int)=((2^(52+(U-52)):Nat):Int) by congr 3;omega,Int.pow_add,Nat.pow_add,Int.natCast_mul,Int.natCast_pow 2 (U-52)]
  grind
 have h3:(iv 4697254411347427328:Rat)=1048576*(((2^U:Nat):Nat):Rat):=by
  rw[h2,Rat.intCast_mul,Rat.intCast_natCast];rfl
 obtain⟨ux,hu⟩:=ul_unit
 unfold rv
 rw[h3]
 grind
theorem leq_true{x y:Nat}(fx:Fnt x)(fy:Fnt y)(h:iv x<=iv y):(FloatKind.f64.format.order x y==some Ordering.lt||FloatKind.f64.format.order x y==some Ordering.eq)=true:=by
 have e:FloatKind.f64.format.order x y=some (compare (iv x) (iv y)):=order_spec fx fy
 rw[e]
 rcases Int.lt_trichotomy (iv x) (iv y) with g|g|g
 ·rw[Int.compare_eq_lt.2 g];rfl
 ·rw[Int.compare_eq_eq.2 g];rfl
 ·omega
theorem lss_false{x y:Nat}(fx:Fnt x)(fy:Fnt y)(h:iv y<=iv x):(FloatKind.f64.format.order x y==some Ordering.lt)=false:=by
 have e:FloatKind.f64.format.order x y=some (compare (iv x) (iv y)):=order_spec fx fy
 rw[e]
 rcases Int.lt_trichotomy (iv x) (iv y) with g|g|g
 ·omega
 ·rw[Int.compare_eq_eq.2 g];rfl
 ·rw[Int.compare_eq_gt.2 g];rfl
theorem gtr_false{x y:Nat}(fx:Fnt x)(fy:Fnt y)(h:iv x<=iv y):(FloatKind.f64.format.order x y==some Ordering.gt)=false:=by
 have e:FloatKind.f64.format.order x y=some (compare (iv x) (iv y)):=order_spec fx fy
 rw[e]
 rcases Int.lt_trichotomy (iv x) (iv y) with g|g|g
 ·rw[Int.compare_eq_lt.2 g];rfl
 ·rw[Int.compare_eq_eq.2 g];rfl
 ·omega
theorem last_ok{f:Nat->Nat}{n a b s l g:Nat}(ht:Tops f n a b)(hn:n<=120)(hz:¬NoughtS f n)(hs:SumN (sqS f a b n) (sqS f a b n) (960*uu) s)(hl:SumN (sqS f a b n) (sqS f a b n) (960*uu) l)(hg:fsqrt s=some g):
  Fnt g/\(FloatKind.f64.format.order g 4598175219545276416==some Ordering.lt)=false/\(FloatKind.f64.format.order g 4697254411347427328==some Ordering.gt)=false/\
  ∃q,fsqrt l=some q/\∀h,Fnt h->iv h=iv g->∃d m,fsub h q=some d/\fmul 4431542033332568064 h=some m/\
   (FloatKind.f64.format.order d m==some Ordering.lt||FloatKind.f64.format.order d m==some Ordering.eq)=true/\(FloatKind.f64.format.order (T.fneg d) m==some Ordering.lt||FloatKind.f64.format.order (T.fneg d) m==some Ordering.eq)=true:=by
 have hS:=ht.low hz
 have hS2:=ht.high hn
 have hu:=uu_small
 have hw:=Rat.mul_le_mul_of_nonneg_right (show 960*uu<=2000*uu by grind) (show 0<=sqS f a b n by grind)
 obtain⟨s0,s1,s2⟩:=hs
 obtain⟨l0,l1,l2⟩:=hl
 obtain⟨g',q,e1,e2,e3,e4,e5,e6,e7,e8,e9⟩:=roots_end s0 l0 hS (by grind) (by grind) (by grind) (by grind) (by grind)
 rw[hg] at e1
 cases e1
 refine⟨e3,lss_false e3 quarter_val.1 (iv_of_rv (by rw[quarter_val.2];exact e5)),gtr_false e3 million_val.1 (iv_of_rv (by rw[million_val.2];grind)),q,e2,?_⟩
 intro h fh vh
 have hr:rv h=rv g:=by unfold rv;rw[vh]
 rw[<-hr] at e5 e6 e7 e8
 obtain⟨d1,d2,d3,d4⟩:=len_cmp fh e4 e5 e6 e7 e8 e9
 obtain⟨n1,n2⟩:=T.fneg_spec d1
 refine⟨fS h q,fM 4431542033332568064 h,?_,fM_some c39_val.1 fh rfl,leq_true d1 d2 d3,leq_true n1 d2 (by rw[n2];exact d4)⟩
 have ho:=om_big
 have uh:=Rat.mul_le_mul_of_nonneg_right (show 8100*uu<=1 by grind) (show 0<=rv h by grind)
 exact fS_some fh e4 (by grind) (by grind)
theorem Scale_null{x:Nat}(hx:Fnt x)(h0:iv x=0)(k:Int)(k1:-2900<=k)(k2:k<=2900)(w:World):Calls Tryz.prog 31 #[.float .f64 x,.int .i64 k] w λz w'=>z=.returned (.float .f64 x)/\w=w':=by
 have C:=λw=>ldexp_null x k w (order_null hx h0)
 have H:=aZ (λw=>Ldexp_of x x k w C)
 have e1:min k 3000=k:=by omega
 have e2:max (-3000) k=k:=by omega
 clear C
 go_enter Tryz.func31,Tryz.ntmps31
 go_wp2_with (first|simp only[e1,e2]|fail)
 refine(H.out _).mono ?_
 rintro z w' ⟨rfl,rfl⟩
 go_wp2
 go_ret
 exact⟨rfl,rfl⟩
theorem le_K0{n U a K0:Nat}(h:n<2^(U+a))(hU:U<=K0):n<2^(K0+a):=Nat.lt_of_lt_of_le h (Nat.pow_le_pow_right (by decide) (by omega))
theorem Scale_scl{f:Nat->Nat}{n i a b:Nat}{K:Int}(ht:Tops f n a b)(ha:a=K.toNat)(hb:b=(-K).toNat)(hK:-1074<=K/\K<=1024)(hi:i<n):
  ∃p,(∀w,Calls Tryz.prog 31 #[.float .f64 (f i),.int .i64 (-K)] w λz w'=>z=.returned (.float .f64 p)/\w=w')/\Scl (f i) p a b:=by
 have hx:=ht.fin i hi
 by_cases h0:iv (f i)=0
 ·refine⟨f i,λw=>Scale_null hx h0 (-K) (by omega) (by omega) w,?_⟩
  obtain⟨e1,e2,e3⟩:=NearS.near (near_null (a:=a) (b:=b) hx h0)
  exact⟨e1,e2,e3,λh=>h⟩
 ·obtain⟨K0,hK0⟩:∃K0,K0=1075:=⟨_,rfl⟩
  obtain⟨p,hp,hn⟩:=Scale_val hx (-K) (by omega) (by omega) (a:=a) (b:=b) (by omega) hb hK0 (le_K0 (ht.lt i hi) (by have:=U_eq;omega))
  obtain⟨e1,e2,e3⟩:=NearS.near hn
  exact⟨p,hp,e1,e2,e3,λh=>absurd h h0⟩
theorem RScale_scl{f:Nat->Nat}{n i a b:Nat}{K:Int}(ht:Tops f n a b)(ha:a=K.toNat)(hb:b=(-K).toNat)(hK:-1074<=K/\K<=1024)(hi:i<n)(w:World):
  Calls Tryz.prog 13 #[.float .f64 (f i),.int .i64 (-K)] w λz w'=>(∃p,(p<18446744073709551616/\Scl (f i) p a b)/\z=.returned (.float .f64 p))/\w=w':=by
 have hx:=ht.fin i hi
 obtain⟨K0,hK0⟩:∃K0,K0=1075:=⟨_,rfl⟩
 refine(RScale_val hx (-K) (by omega) (by omega) (a:=a) (b:=b) (K0:=K0) (by omega) hb (by omega) (le_K0 (ht.lt i hi) (by have:=U_eq;omega)) w).mono ?_
 rintro z w' ⟨⟨y,h,rfl⟩,rfl⟩
 obtain⟨e1,e2,e3⟩:=HalfS.near h
 refine⟨⟨y,⟨e1.1,e1,e2,e3,λh0=>?_⟩,rfl⟩,rfl⟩
 obtain⟨-,h1,h2⟩:=h
 rw[h0,Int.zero_mul] at h1 h2
 have hA:=pow_pos_int a
 generalize (2:Int)^a=A at*
 rcases Int.lt_trichotomy (iv y) 0 with g|g|g
 ·have:=Int.mul_le_mul_of_nonneg_right (show iv y<=-1 by omega) (Int.le_of_lt hA)
  omega
 ·exact g
 ·have:=Int.mul_le_mul_of_nonneg_right (show 1<=iv y by omega) (Int.le_of_lt hA)
  omega
abbrev allP(x:Nat->Cx)(n:Nat):Nat->Nat:=joinW (λi=>(x i).1) (λi=>(x i).2) n
theorem all_x(x:Nat->Cx){n i:Nat}(h:i<n):allP x n i=(x i).1:=join_x _ _ h
theorem all_y(x:Nat->Cx){n i:Nat}:allP x n (n+i)=(x i).2:=join_y _ _
def FinX(x:Nat->Cx)(n:Nat):Prop:=∀i,i<n->Fnt (x i).1/\Fnt (x i).2
def LenP(x:Nat->Cx)(n:Nat)(g:Nat)(k:Int):Prop:=(¬FinX x n/\g=13830554455654793216/\k=0)\/(FinX x n/\∃K,TopIs (allP x n) (n+n) K true/\LenF (allP x n) K.toNat (-K).toNat (n+n) K g k)
theorem Length_len(X:Option Addr)(n cx:Nat)(x:Nat->Cx)(w:World)(hX:CsAt w X n x)(hn:n<=60):
  Calls Tryz.prog 9 #[.slice X n cx] w λz w'=>(∃f k,z=.returned (.tuple #[.float .f64 f,.int .i64 k])/\LenP x n f k)/\Below w.heap.size w w':=by
 refine Length_any X n cx x w hX hn (LenP x n) (λh=>.inl ⟨h,rfl,rfl⟩) (λK hK=>?_)
 have ht:=hK.tops rfl rfl
 have hr:=hK.rng
 have hfin:FinX x n:=λi hi=>by
  have h1:=ht.fin i (by omega)
  have h2:=ht.fin (n+i) (by omega)
  rw[join_x _ _ hi] at h1
  rw[join_y] at h2
  exact⟨h1,h2⟩
 refine⟨LenI (allP x n) K.toNat (-K).toNat (n+n),LenI.zero _ _ _ _,λi s hi h=>?_,λs h=>?_⟩
 ·obtain⟨p,hp,hs⟩:=Scale_scl ht rfl rfl hr hi
  obtain⟨e1,e2,e3⟩:=LenI.step ht (by omega) hi h hs
  exact⟨p,_,_,hp,e1,e2,e3⟩
 ·rcases LenI.fin (K:=K) h ht (by omega) with⟨h1,h2⟩|⟨h1,g,h2,h3⟩
  ·exact .inl ⟨h1,.inr ⟨hfin,K,hK,h2⟩⟩
  ·exact .inr ⟨h1,g,h2,.inr ⟨hfin,K,hK,h3⟩⟩
theorem scaled_scl(X:Option Addr)(n c:Nat)(x:Nat->Cx)(K:Int)(w:World)(hX:CsAt w X n x)(hn:n<=60)(hK:TopIs (allP x n) (n+n) K true):
  Calls Tryz.prog 12 #[.slice X n c,.int .i64 (-K)] w λz w'=>∃(u v:Value) (L M:List Wd),z=.returned (.tuple #[u,v])/\L.length=n/\M.length=n/\OwnL w' w.heap.size u L/\OwnL w' w.heap.size v M/\Apart u v/\Below w.heap.size w w'/\
   (∀i,i<n->Scl (x i).1 (L.getD i 0:Wd) K.toNat (-K).toNat/\Scl (x i).2 (M.getD i 0:Wd) K.toNat (-K).toNat):=by
 have ht:=hK.tops rfl rfl
 have hr:=hK.rng
 have hfin:∀i,i<n->Fnt (x i).1/\Fnt (x i).2:=λi hi=>by
  have h1:=ht.fin i (by omega)
  have h2:=ht.fin (n+i) (by omega)
  rw[all_x x hi] at h1
  rw[all_y x] at h2
  exact⟨h1,h2⟩
 refine scaled_any X n c x (-K) w hX (by omega) (λi p=>Scl (x i).1 p K.toNat (-K).toNat) (λi p=>Scl (x i).2 p K.toNat (-K).toNat) (λi hi y hy=>?_)
 obtain⟨e1,e2⟩:=nC_fin hy (hfin i hi)
 rw[e1,e2]
 constructor
 ·intro w
  have:=RScale_scl ht rfl rfl hr (show i<n+n by omega) w
  rw[all_x x hi] at this
  exact this
 ·intro w
  have:=RScale_scl ht rfl rfl hr (show n+i<n+n by omega) w
  rw[all_y x] at this
  exact this
end Go.Proofs.YtfedabinindpbaaGreat
